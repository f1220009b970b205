/- Parts of the proof, one behind another. -/
import Derived.Test.YtekehmgfedmflaaGreatDoorX1
import Derived.Test.YtekehmgfedmflaaGreatDoorX0
import Derived.Test.YtekehmgfedmflaaGreatDoorX8
import Derived.Test.YtekehmgfedmflaaGreatDoorX6
set_option linter.all false
noncomputable section
namespace Go.Proofs.YtekehmgfedmflaaGreatDoor.A
section
open Go
theorem wrapS{n:Int}(h0 : -9223372036854775808<=n)(h1:n<9223372036854775808):IntKind.i64.wrap n=n:=by
 rw[IntKind.wrap_i64];omega
theorem yi_(σ:Heap)(o:AObj)(k:Nat):(σ.new o).get k=if k=σ.next then some o else σ.get k:=rfl
theorem y6g_(σ:Heap)(l k:Nat):(σ.kill l).get k=if k=l then none else σ.get k:=rfl
theorem y1r_(σ:Heap)(l k:Nat)(o:AObj):(σ.set l o).get k=if k=l then some o else σ.get k:=rfl
structure Hle(σ τ:Heap):Prop where
 next:σ.next<=τ.next
 get:∀l o,l<σ.next->σ.get l=some o->τ.get l=some o
section
variable{σ τ υ:Heap}{l:Nat}{o:AObj}
theorem Hle.refl(σ:Heap):Hle σ σ:=⟨Nat.le_refl _,fun _ _ _ h=>h⟩
theorem Hle.trans(h:Hle σ τ)(k:Hle τ υ):Hle σ υ:=⟨Nat.le_trans h.next k.next,fun l o hl hg=>k.get l o (Nat.lt_of_lt_of_le hl h.next) (h.get l o hl hg)⟩
theorem Hle.new(h:Hle σ τ)(o:AObj):Hle σ (τ.new o):=⟨Nat.le_succ_of_le h.next,fun l x hl hg=>by
 have:=h.next;simp only[Heap.new];rw[if_neg (by omega)];exact h.get l x hl hg⟩
theorem Hle.set(h:Hle σ τ)(hl:σ.next<=l)(o:AObj):Hle σ (τ.set l o):=⟨h.next,fun k x hk hg=>by
 simp only[Heap.set];rw[if_neg (by omega)];exact h.get k x hk hg⟩
theorem Hle.kill(h:Hle σ τ)(hl:σ.next<=l):Hle σ (τ.kill l):=⟨h.next,fun k x hk hg=>by
 simp only[Heap.kill];rw[if_neg (by omega)];exact h.get k x hk hg⟩
theorem Hle.of_kill(σ:Heap)(l:Nat):Hle (σ.kill l) σ:=⟨Nat.le_refl _,fun k x _ hg=>by
 simp only[Heap.kill]at hg;split at hg
 ·cases hg
 ·exact hg⟩
theorem Hle.kill_set(σ:Heap)(l:Nat)(o:AObj):Hle (σ.kill l) (σ.set l o):=⟨Nat.le_refl _,fun k x _ hg=>by
 simp only[Heap.kill]at hg;split at hg
 ·cases hg
 ·rename_i h;simp only[Heap.set];rw[if_neg h];exact hg⟩
theorem Hle.kill_kill_set(σ:Heap)(l:Nat)(o:AObj):Hle (σ.kill l) ((σ.set l o).kill l):=⟨Nat.le_refl _,fun k x _ hg=>by
 simp only[Heap.kill]at hg⊢;split at hg
 ·cases hg
 ·rename_i h;simp only[Heap.set,if_neg h];exact hg⟩
end
section
variable{σ τ:Heap}{p:AVal}{as0:List AVal}{l o k n:Nat}{a:AVal}
def At(σ:Heap)(p:AVal)(as0:List AVal):Prop:=∃l o md sz cs,p=.ptr l o/\l<σ.next/\σ.get l=some (.cells md sz cs)/\o+as0.length<=cs.length/\(cs.drop o).take as0.length=as0
theorem At.mono(h:At σ p as0)(L:Hle σ τ):At τ p as0:=by
 obtain⟨l,o,md,sz,cs,h1,h2,h3,h4,h5⟩:=h;exact⟨l,o,md,sz,cs,h1,Nat.lt_of_lt_of_le h2 L.next,L.get _ _ h2 h3,h4,h5⟩
theorem At.new(σ:Heap)(sz:Nat)(cs:List AVal):At (σ.new (.cells .rw sz cs)) (.ptr σ.next 0) cs:=
 ⟨_,0,.rw,sz,cs,rfl,Nat.lt_succ_self _,by simp[Heap.new],by simp,by simp⟩
theorem At.of_get{md:Md}{sz:Nat}(hl:l<σ.next)(h:σ.get l=some (.cells md sz as0)):At σ (.ptr l 0) as0:=⟨_,0,md,sz,as0,rfl,hl,h,by simp,by simp⟩
theorem At.drop(h:At σ (.ptr l o) as0)(k:Nat)(hk:k<=as0.length):At σ (.ptr l (o+k)) (as0.drop k):=by
 obtain⟨l',o',md,sz,cs,h1,h2,h3,h4,h5⟩:=h;cases h1;refine⟨l,o+k,md,sz,cs,rfl,h2,h3,by simp;omega,?_⟩
 conv=>rhs;rw[<-h5]
 rw[List.drop_take,List.drop_drop,List.length_drop]
theorem At.take(h:At σ p as0)(k:Nat)(hk:k<=as0.length):At σ p (as0.take k):=by
 obtain⟨l',o',md,sz,cs,h1,h2,h3,h4,h5⟩:=h;refine⟨l',o',md,sz,cs,h1,h2,h3,by simp;omega,?_⟩
 conv=>rhs;rw[<-h5]
 rw[List.take_take,List.length_take]
theorem At.cell{l o:Nat}(h:At σ (.ptr l o) as0)(hk:as0[k]?=some a):σ.cell l (o+k)=some a:=by
 obtain⟨l',o',md,sz,cs,h1,h2,h3,h4,h5⟩:=h;cases h1;have hlt:=(List.getElem?_eq_some_iff.1 hk).1;have:((cs.drop o).take as0.length)[k]?=some a:=by rw[h5,hk]
 rw[List.getElem?_take_of_lt hlt,List.getElem?_drop]at this;simp only[Heap.cell,h3,this]
theorem At.ld0{Rt:Type}{kd:Kd}(h:At σ (.ptr l 0) as0)(hk:as0[k]?=some a)(K:kd.ty->Option Rt):A.ld σ (.ptr l k) kd K=asK kd a K:=by
 have:=h.cell hk;rw[Nat.zero_add]at this;simp only[A.ld,this]
theorem At.ldG{Rt:Type}(h:At σ p as0)(hn:n=as0.length)(K:AVal->Option Rt):ldG σ p n K=K (.agg as0):=by
 obtain⟨l,o,md,sz,cs,rfl,h2,h3,h4,h5⟩:=h;subst hn;simp only[A.ldG,h3,if_pos h4,h5]
end
structure Vw(α:Type) where
 sz:Nat
 rel:Heap->α->List AVal->Prop
 pos:0<sz
 len:∀{σ a as0},rel σ a as0->as0.length=sz
 mono:∀{σ τ a as0},Hle σ τ->rel σ a as0->rel τ a as0
variable{α β:Type}
def SlV(v:Vw α)(σ:Heap)(xs:List α)(x:AVal):Prop:=(x=.nils/\xs=[])\/∃l off c md cs,x=.sl l off xs.length c/\l<σ.next/\σ.get l=some (.cells md v.sz cs) /\
 (off+xs.length)*v.sz<=cs.length/\∀i a,xs[i]?=some a->v.rel σ a ((cs.drop ((off+i)*v.sz)).take v.sz)
def Vw.int:Vw Int:=⟨1,fun _ a as0=>as0=[.int .i64 a],Nat.one_pos,fun h=>by rw[h];rfl,fun _ h=>h⟩
def Vw.bool:Vw Bool:=⟨1,fun _ a as0=>as0=[.bool a],Nat.one_pos,fun h=>by rw[h];rfl,fun _ h=>h⟩
section
variable{v:Vw α}{σ τ:Heap}{xs ys:List α}{x w:AVal}
theorem SlV.mono(h:SlV v σ xs x)(L:Hle σ τ):SlV v τ xs x:=by
 rcases h with h|⟨l,off,c,md,cs,h1,h2,h3,h4,h5⟩
 ·exact .inl h
 ·exact .inr ⟨l,off,c,md,cs,h1,Nat.lt_of_lt_of_le h2 L.next,L.get _ _ h2 h3,h4,fun i a ha=>v.mono L (h5 i a ha)⟩
theorem SlV.nil(v:Vw α)(σ:Heap):SlV v σ [] .nils:=.inl ⟨rfl,rfl⟩
def Vw.sl(v:Vw α):Vw (List α):=⟨1,fun σ xs as0=>∃x,as0=[x]/\SlV v σ xs x,Nat.one_pos,fun h=>by obtain⟨_,rfl,_⟩:=h;rfl,fun L h=>by
 obtain⟨x,e,h⟩:=h;exact⟨x,e,h.mono L⟩⟩
theorem SlV.len{Rt:Type}(h:SlV v σ xs x)(K:Int->Option Rt):lenV x K=K (xs.length:Int):=by
 rcases h with ⟨rfl,rfl⟩|⟨l,off,c,md,cs,rfl,_⟩<;>rfl
theorem SlV.scal{Rt:Type}(h:SlV v σ xs x)(X:Option Rt):scal x X=X:=by
 rcases h with ⟨rfl,rfl⟩|⟨l,off,c,md,cs,rfl,_⟩<;>rfl
theorem SlV.ix{i:Nat}{a:α}(h:SlV v σ xs x)(hi:xs[i]?=some a):∃p as0,At σ p as0/\v.rel σ a as0/\∀{τ:Heap},Hle σ τ->∀{Rt:Type} (K:AVal->Option Rt),ixA τ x v.sz (i:Int) K=K p:=by
 rcases h with ⟨rfl,rfl⟩|⟨l,off,c,md,cs,rfl,h2,h3,h4,h5⟩
 ·simp at hi
 ·have hlt:=(List.getElem?_eq_some_iff.1 hi).1
  have hr:=h5 i a hi;have hle:(off+i)*v.sz+v.sz<=cs.length:=Nat.le_trans (by rw[<-Nat.succ_mul];exact Nat.mul_le_mul_right _ (by omega)) h4;refine⟨.ptr l ((off+i)*v.sz),_,⟨l,(off+i)*v.sz,md,v.sz,cs,rfl,h2,h3,by rw[v.len hr];exact hle,by rw[v.len hr]⟩,hr,fun {τ} L {_} K=>?_⟩;simp only[ixA,L.get _ _ h2 h3];rw[if_pos ⟨trivial,by omega,by omega⟩,Int.toNat_natCast]
theorem SlV.src(h:SlV v σ ys w):∃cs,(∀{Rt:Type} (K:List AVal->Nat->Option Rt),srcK σ v.sz w K=K cs ys.length)/\cs.length=ys.length*v.sz/\∀i a,ys[i]?=some a->v.rel σ a ((cs.drop (i*v.sz)).take v.sz):=by
 rcases h with ⟨rfl,rfl⟩|⟨l,off,c,md,cs,rfl,h2,h3,h4,h5⟩
 ·exact⟨[],fun K=>rfl,by simp,fun i a h=>by simp at h⟩
 ·refine⟨(cs.drop (off*v.sz)).take (ys.length*v.sz),fun K=>?_,?_,fun i a hi=>?_⟩
  ·simp only[srcK,h3];rw[if_pos ⟨trivial,h4⟩]
  ·have:(off+ys.length)*v.sz=off*v.sz+ys.length*v.sz:=Nat.add_mul ..
   rw[List.length_take,List.length_drop];omega
  ·have hlt:=(List.getElem?_eq_some_iff.1 hi).1
   have e:(i+1)*v.sz<=ys.length*v.sz:=Nat.mul_le_mul_right _ hlt;rw[Nat.add_mul,Nat.one_mul]at e;rw[List.drop_take,List.drop_drop,List.take_take,Nat.min_eq_left (by omega),<-Nat.add_mul];exact h5 i a hi
def out(σ:Heap):AVal->Heap
 | .sl l _ _ _=>σ.kill l
 |_=>σ
def Acc(v:Vw α)(n0:Nat)(σ:Heap)(xs:List α)(x:AVal):Prop:=(x=.nils/\xs=[])\/∃l cs,x=.sl l 0 xs.length none/\n0<=l/\l<σ.next/\σ.get l=some (.cells .rw v.sz cs) /\
 xs.length*v.sz<=cs.length/\∀i a,xs[i]?=some a->v.rel (σ.kill l) a ((cs.drop (i*v.sz)).take v.sz)
theorem Hle.out(σ:Heap)(x:AVal):Hle (out σ x) σ:=by
 cases x<;>first|exact Hle.refl _|exact Hle.of_kill ..
theorem Acc.nil(v:Vw α)(n0:Nat)(σ:Heap):Acc v n0 σ [] .nils:=.inl ⟨rfl,rfl⟩
theorem Acc.sl{n0:Nat}(h:Acc v n0 σ xs x):SlV v σ xs x:=by
 rcases h with h|⟨l,cs,rfl,_,h2,h3,h4,h5⟩
 ·exact .inl h
 ·exact .inr ⟨l,0,none,.rw,cs,rfl,h2,h3,by simpa using h4,fun i a hi=>by rw[Nat.zero_add];exact v.mono (Hle.of_kill _ _) (h5 i a hi)⟩
theorem Acc.out_le{σ0:Heap}(h:Acc v σ0.next σ xs x)(L:Hle σ0 σ):Hle σ0 (out σ x):=by
 rcases h with ⟨rfl,_⟩|⟨l,cs,rfl,h2,_⟩
 ·exact L
 ·exact L.kill h2
theorem Acc.len{Rt:Type}{n0:Nat}(h:Acc v n0 σ xs x)(K:Int->Option Rt):lenV x K=K (xs.length:Int):=h.sl.len K
theorem y92_{v:Vw α}{σ:Heap}{xs ys:List α}{cs ds:List AVal}(hc:cs.length=xs.length*v.sz)(h1:∀i a,xs[i]?=some a->v.rel σ a ((cs.drop (i*v.sz)).take v.sz))(h2:∀i a,ys[i]?=some a->v.rel σ a ((ds.drop (i*v.sz)).take v.sz))(es:List AVal)
  (hd:ds.length=ys.length*v.sz):∀i a,(xs++ys)[i]?=some a->v.rel σ a (((cs++ds++es).drop (i*v.sz)).take v.sz):=by
 intro i a hi;by_cases h:i<xs.length
 ·rw[List.getElem?_append_left h]at hi
  have:=h1 i a hi;have e:(i+1)*v.sz<=xs.length*v.sz:=Nat.mul_le_mul_right _ h;rw[Nat.add_mul,Nat.one_mul]at e;rw[List.append_assoc,List.drop_append_of_le_length (by omega),List.take_append_of_le_length (by simp;omega)];exact this
 ·rw[List.getElem?_append_right (by omega)]at hi
  have:=h2 _ a hi;have hlt:=(List.getElem?_eq_some_iff.1 hi).1;have e0:i*v.sz=cs.length+(i-xs.length)*v.sz:=by rw[hc,<-Nat.add_mul];congr 1;omega
  have e:(i-xs.length+1)*v.sz<=ys.length*v.sz:=Nat.mul_le_mul_right _ hlt;rw[Nat.add_mul,Nat.one_mul]at e;rw[List.append_assoc,e0,<-List.drop_drop,List.drop_left,List.drop_append_of_le_length (by omega),List.take_append_of_le_length (by simp;omega)];exact this
theorem Acc.app{σ0:Heap}{bytes:Nat}(h:Acc v σ0.next σ xs x)(L:Hle σ0 σ)(hs:SlV v (out σ x) ys w)(hb:(xs.length+ys.length)*bytes<=70368744177664)(hb':xs.length+ys.length<=70368744177664) :
  ∃x' σ',(∀{Rt:Type} (K:AVal->Heap->Option Rt),appS σ v.sz bytes x w K=K x' σ')/\Hle σ0 σ'/\Acc v σ0.next σ' (xs++ys) x'/\Hle (out σ x) (out σ' x'):=by
 obtain⟨ds,e1,d1,d2⟩:=hs.src;have e1':∀{Rt:Type} (K:List AVal->Nat->Option Rt),srcK σ v.sz w K=K ds ys.length:=by
  rcases hs with ⟨rfl,rfl⟩|⟨l,off,c,md,cs,rfl,h2,h3,h4,h5⟩
  ·exact fun K=>e1 K
  ·intro Rt K
   rw[<-e1 K];simp only[srcK,h3,(Hle.out σ x).get _ _ h2 h3]
 rcases h with ⟨rfl,rfl⟩|⟨l,cs,rfl,h2,h3,h4,h5,h6⟩
 ·by_cases h0:ys.length=0
  ·have:ys=[]:=List.eq_nil_of_length_eq_zero h0
   subst this;exact⟨.nils,σ,fun K=>by simp only[appS,e1',appC];rw[if_pos h0],L,.inl ⟨rfl,rfl⟩,Hle.refl _⟩
  ·refine⟨.sl σ.next 0 ys.length none,σ.new (.cells .rw v.sz ds),fun K=>?_,L.new _,.inr ⟨σ.next,ds,by simp,L.next,Nat.lt_succ_self _,by simp[Heap.new],by simp[d1],fun i a hi=>?_⟩,?_⟩
   ·simp only[appS,e1',appC,newK]
    simp only[List.length_nil,Nat.zero_add]at hb hb';rw[if_neg h0,if_pos ⟨hb,hb'⟩]
   ·rw[List.nil_append]at hi
    refine v.mono ?_ (d2 i a hi);exact⟨Nat.le_succ _,fun k y hk hg=>by simp only[A.out]at hk;simp only[Heap.kill,Heap.new];rw[if_neg (by omega),if_neg (by omega)];exact hg⟩
   ·exact⟨Nat.le_succ _,fun k y hk hg=>by simp only[A.out]at hk hg⊢;simp only[Heap.kill,Heap.new];rw[if_neg (by omega),if_neg (by omega)];exact hg⟩
 ·simp only[A.out]at hs d2⊢
  by_cases h0:ys.length=0
  ·have:ys=[]:=List.eq_nil_of_length_eq_zero h0
   subst this;refine⟨_,σ,fun K=>by simp only[appS,e1',appC,h4];rw[if_pos ⟨trivial,v.pos,by simpa using h5⟩,if_pos h0],L,.inr ⟨l,cs,by simp,h2,h3,h4,by simpa using h5,fun i a hi=>h6 i a (by simpa using hi)⟩,Hle.refl _⟩
  ·by_cases hroom:(xs.length+ys.length)*v.sz<=cs.length
   ·have ea:(xs.length+ys.length)*v.sz=xs.length*v.sz+ys.length*v.sz:=Nat.add_mul ..
    refine⟨.sl l 0 (xs.length+ys.length) none,σ.set l (.cells .rw v.sz (cs.take (xs.length*v.sz)++ds++cs.drop ((xs.length+ys.length)*v.sz))),fun K=>?_,L.set h2 _,.inr ⟨l,cs.take (xs.length*v.sz)++ds++cs.drop ((xs.length+ys.length)*v.sz),by simp,h2,h3,by simp[Heap.set],by simp;omega,?_⟩,Hle.kill_kill_set ..⟩
    ·simp only[appS,e1',appC,h4,Nat.zero_add]
     rw[if_pos ⟨trivial,v.pos,h5⟩,if_neg h0,if_pos ⟨hb,hb'⟩];simp only[if_true];rw[if_pos hroom]
    ·refine y92_ (by simp;omega) (fun i a hi=>?_) (fun i a hi=>v.mono (Hle.kill_kill_set ..) (d2 i a hi)) (cs.drop ((xs.length+ys.length)*v.sz)) d1
     have hlt:=(List.getElem?_eq_some_iff.1 hi).1;have e:(i+1)*v.sz<=xs.length*v.sz:=Nat.mul_le_mul_right _ hlt;rw[Nat.add_mul,Nat.one_mul]at e;rw[List.drop_take,List.take_take,Nat.min_eq_left (by omega)];exact v.mono (Hle.kill_kill_set ..) (h6 i a hi)
   ·refine⟨.sl σ.next 0 (xs.length+ys.length) none,(σ.kill l).new (.cells .rw v.sz (cs.take (xs.length*v.sz)++ds)),fun K=>?_,(L.kill h2).new _,.inr ⟨σ.next,cs.take (xs.length*v.sz)++ds,by simp,L.next,Nat.lt_succ_self _,by simp[Heap.new,Heap.kill],by simp[Nat.add_mul];omega,?_⟩,?_⟩
    ·simp only[appS,e1',appC,h4,Nat.zero_add]
     rw[if_pos ⟨trivial,v.pos,h5⟩,if_neg h0,if_pos ⟨hb,hb'⟩];simp only[if_true];rw[if_neg hroom];simp only[newK,Nat.zero_mul,List.drop_zero];rfl
    ·have Lk:Hle (σ.kill l) (((σ.kill l).new (.cells .rw v.sz (cs.take (xs.length*v.sz)++ds))).kill σ.next):=
      ⟨Nat.le_succ _,fun k y hk hg=>by
       have hk:k<σ.next:=hk;have hne:k≠σ.next:=by omega
       have hne2:k≠(σ.kill l).next:=hne;rw[y6g_,if_neg hne,yi_,if_neg (show¬k=(σ.kill l).next from hne)];exact hg⟩
     have:=y92_ (v:=v) (σ:=((σ.kill l).new (.cells .rw v.sz (cs.take (xs.length*v.sz)++ds))).kill σ.next) (xs:=xs) (ys:=ys) (cs:=cs.take (xs.length*v.sz)) (ds:=ds) (by simp;omega) (fun i a hi=>?_) (fun i a hi=>v.mono Lk (d2 i a hi)) [] d1
     ·simpa using this
     ·have hlt:=(List.getElem?_eq_some_iff.1 hi).1
      have e:(i+1)*v.sz<=xs.length*v.sz:=Nat.mul_le_mul_right _ hlt;rw[Nat.add_mul,Nat.one_mul]at e;rw[List.drop_take,List.take_take,Nat.min_eq_left (by omega)];exact v.mono Lk (h6 i a hi)
    ·exact⟨Nat.le_succ _,fun k y hk hg=>by
      have hk:k<σ.next:=hk;have hne:k≠σ.next:=by omega
      show(((σ.kill l).new _).kill σ.next).get k=_;rw[y6g_,if_neg hne,yi_,if_neg (show¬k=(σ.kill l).next from hne)];exact hg⟩
end
section
variable{v:Vw α}{σ τ:Heap}{xs ys:List α}{x w:AVal}{n0 i:Nat}{a:α}
def Vw.Flat(v:Vw α):Prop:=∀σ τ a as0,v.rel σ a as0->v.rel τ a as0
theorem Vw.int_flat:Vw.int.Flat:=fun _ _ _ _ h=>h
theorem Vw.bool_flat:Vw.bool.Flat:=fun _ _ _ _ h=>h
end
end
section
open Go Go.RowKit
variable{P:Program}{α β:Type}
theorem yjd_{size:Nat}{rel:(Nat->Option AObj)->α->List AVal->Prop}(v:Vw β)(φ:α->β)(hsz:v.sz=size){σ:Heap}(hn:∀l o,σ.get l=some o->l<σ.next)
  (hr:∀a us,rel σ.get a us->v.rel σ (φ a) us) {xs:List α} {us:List AVal} (h:y36_ size rel σ.get xs us):∃x,us=[x]/\SlV v σ (xs.map φ) x:=by
 subst hsz;rcases h with ⟨rfl,rfl⟩|⟨l,md,ass,rfl,h2,h3,h4,h5,_⟩
 ·exact⟨_,rfl,SlV.nil _ _⟩
 ·refine⟨_,rfl,.inr ⟨l,0,none,md,ass.flatten,by simp,hn _ _ h2,h2,by rw[y4x_ _ _ h4,List.length_map,h3,Nat.zero_add];exact Nat.le_refl _,fun i b hb=>?_⟩⟩
  simp only[List.getElem?_map,Option.map_eq_some_iff]at hb;obtain⟨a,ha,rfl⟩:=hb;have hi:=(List.getElem?_eq_some_iff.1 ha).1;obtain⟨u,hu⟩:∃u,ass[i]?=some u:=⟨_,List.getElem?_eq_getElem (by omega)⟩;have hul:=h4 u (List.mem_of_getElem? hu);have:(ass.flatten.drop ((0+i)*v.sz)).take v.sz=u:=by
   apply List.ext_getElem? fun q=>?_;rw[Nat.zero_add];by_cases hq:q<v.sz
   ·rw[List.getElem?_take_of_lt hq,List.getElem?_drop,y4t_ v.sz ass i q u h4 hu hq]
   ·rw[List.getElem?_eq_none (by simp;omega),List.getElem?_eq_none (by omega)]
  rw[this];exact hr a u (h5 i a u ha hu)
theorem ybq_{size:Nat}{rel:(Nat->Option AObj)->α->List AVal->Prop}{g:Nat->Option AObj}{xs:List α}{us:List AVal}(h:y36_ size rel g xs us):∀a∈xs,∃u,rel g a u:=by
 rcases h with ⟨_,rfl⟩|⟨l,md,ass,_,_,h3,_,h5,_⟩
 ·intro a ha;cases ha
 ·intro a ha
  obtain⟨i,hi,e⟩:=List.getElem_of_mem ha;exact⟨_,h5 i a _ (by rw[List.getElem?_eq_getElem hi,e]) (List.getElem?_eq_getElem (by omega))⟩
theorem ybn_{size:Nat}{rel:(Nat->Option AObj)->α->List AVal->Prop}{g:Nat->Option AObj}{xs:List α}{us:List AVal}(h:y36_ size rel g xs us):xs.length<=140737488351232:=by
 rcases h with ⟨_,rfl⟩|⟨l,md,ass,_,_,_,_,_,h6⟩
 ·simp
 ·exact h6
end
section
open Go
noncomputable abbrev prg:Program:=Tryz.prog
abbrev tErr:TypeId:=270
abbrev tAt:TypeId:=160
abbrev yj8_:Nat:=4
abbrev yjw_:Nat:=5
abbrev yjf_:Nat:=0
abbrev yk3_:Nat:=1
abbrev gText:Nat:=3
abbrev yhw_:Nat:=2
abbrev gCert:Nat:=6
end
section
open Go
variable{α β:Type}
theorem Acc.loc{v:Vw α}{n0:Nat}{σ:Heap}{xs:List α}{x:AVal}(h:Acc v n0 σ xs x):∀l off len c,x=.sl l off len c->n0<=l/\l<σ.next:=fun l off len c e=>by
 rcases h with ⟨rfl,_⟩|⟨l',cs,rfl,h1,h2,_⟩
 ·cases e
 ·cases e;exact⟨h1,h2⟩
end
section
open Go
set_option linter.all false
def q1:=@decide_eq_true_eq
def q2:=@decide_eq_false_iff_not
def q3:=@Bool.not_eq_true'
def q4:=@Bool.not_eq_false'
def q5:=@beq_iff_eq
def q6:=@beq_eq_false_iff_ne
def q7:=@bne_iff_ne
def q8:=@bne_eq_false_iff_eq
def q9:=@Bool.not_eq_true
def q10:=@Bool.not_eq_false
def q11:=@Bool.not_true
def q12:=@Bool.not_false
def q13:=@Bool.true_eq_false
def q14:=@Bool.false_eq_true
def q15:=@Int.not_lt
def q16:=@Int.not_le
def q17:=@gt_iff_lt
def q18:=@ge_iff_le
def q19:=@ne_eq
def q20:=@Int.toNat_natCast
def q21:=@not_true_eq_false
def q22:=@not_false_eq_true
def q23:=@Bool.and_eq_true
def q24:=@Bool.or_eq_true
def q25:=@Bool.and_eq_false_iff
def q26:=@Bool.or_eq_false_iff
def q27:=@Option.isNone_none
def q28:=@Option.isNone_some
def q29:=@Option.isSome_none
def q30:=@Option.isSome_some
def qq:=And.intro @q1 (And.intro @q2 (And.intro @q3 (And.intro @q4 (And.intro @q5.{0} (And.intro @q6.{0} (And.intro @q7.{0} (And.intro @q8.{0} (And.intro @q9 (And.intro @q10 (And.intro @q11 (And.intro @q12 (And.intro @q13 (And.intro @q14 (And.intro @q15 (And.intro @q16 (And.intro @q17.{0} (And.intro @q18.{0} (And.intro @q19.{1} (And.intro @q20 (And.intro @q21 (And.intro @q22 (And.intro @q23 (And.intro @q24 (And.intro @q25 (And.intro @q26 (And.intro @q27.{0} (And.intro @q28.{0} (And.intro @q29.{0} (@q30.{0})))))))))))))))))))))))))))))
def W{R:Type}(o:Option R)(Q:R->Prop):Prop:=∃r,o=some r/\Q r
section
variable{R S:Type}
theorem W.ret{r:R}{Q:R->Prop}(h:Q r):W (some r) Q:=⟨r,rfl,h⟩
theorem W.bind{o:Option S}{K:S->Option R}{Q:R->Prop}(h:W o fun r=>W (K r) Q):W (o.bind K) Q:=by
 obtain⟨r,rfl,h⟩:=h;exact h
theorem W.mono{o:Option R}{P Q:R->Prop}(h:W o P)(k:∀r,P r->Q r):W o Q:=by
 obtain⟨r,e,h⟩:=h;exact⟨r,e,k r h⟩
theorem W.call{o:Option S}{K:S->Option R}{P:S->Prop}{Q:R->Prop}(h:W o P)(k:∀r,P r->W (K r) Q):W (o.bind K) Q:=by
 obtain⟨r,rfl,h⟩:=h;exact k r h
theorem W.eqn{o:Option S}{r:S}{K:S->Option R}{Q:R->Prop}(h:o=some r)(k:W (K r) Q):W (o.bind K) Q:=by
 rw[h];exact k
theorem W.to{o o':Option R}{Q:R->Prop}(h:o=o')(k:W o' Q):W o Q:=h▸k
theorem W.cnd{b:Bool}{x y:Option R}{Q:R->Prop}(h:b=true->W x Q)(k:b=false->W y Q):W (cond b x y) Q:=by
 cases b
 ·exact k rfl
 ·exact h rfl
theorem W.condT{b:Bool}{x y:Option R}{Q:R->Prop}(h:b=true)(k:W x Q):W (cond b x y) Q:=by subst h;exact k
theorem W.condF{b:Bool}{x y:Option R}{Q:R->Prop}(h:b=false)(k:W y Q):W (cond b x y) Q:=by subst h;exact k
theorem W.chk{p:Prop}{o:Option R}{Q:R->Prop}(h:p)(k:W o Q):W (chk p o) Q:=by
 simp only[A.chk,if_pos h];exact k
end
@[reducible] def LQ{X Y:Type}(A:X->Heap->Prop)(B:Y×Heap->Prop):(X⊕Y)×Heap->Prop:=fun r=>match r.1 with
 | .inl x=>A x r.2
 | .inr y=>B (y,r.2)
@[reducible] def LP{X Y:Type}(A:X->Prop)(B:Y->Prop):X⊕Y->Prop
 | .inl x=>A x
 | .inr y=>B y
section
variable{X Y:Type}
theorem W.next{A:X->Heap->Prop}{B:Y×Heap->Prop}{x:X}{σ:Heap}(h:A x σ):W (some (.inl x,σ)) (LQ A B):=⟨_,rfl,h⟩
theorem W.stop{A:X->Heap->Prop}{B:Y×Heap->Prop}{y:Y}{σ:Heap}(h:B (y,σ)):W (some (.inr y,σ)) (LQ A B):=⟨_,rfl,h⟩
theorem W.nextP{A:X->Prop}{B:Y->Prop}{x:X}(h:A x):W (some (.inl x)) (LP A B):=⟨_,rfl,h⟩
theorem W.stopP{A:X->Prop}{B:Y->Prop}{y:Y}(h:B y):W (some (.inr y)) (LP A B):=⟨_,rfl,h⟩
theorem W.loop{f:X->Heap->Option ((X⊕Y)×Heap)}{Q:Y×Heap->Prop}(n:Nat)(Inv:Nat->X->Heap->Prop){x:X}{σ:Heap}(h0:Inv 0 x σ)
  (step:∀i x σ,i<=n->Inv i x σ->W (f x σ) (LQ (fun x' σ'=>i<n/\Inv (i+1) x' σ') Q)):W (loopW f x σ) Q:=by
 have:∀k i x σ,i+k=n->Inv i x σ->W (loopW f x σ) Q:=by
  intro k
  induction k with
  |zero=>
   intro i x σ hi h;obtain⟨⟨r,τ⟩,e,hr⟩:=step i x σ (by omega) h;cases r with
   |inl x'=>exact absurd hr.1 (by omega)
   |inr y=>exact⟨_,y5r_ e,hr⟩
  | succ k ih=>
   intro i x σ hi h;obtain⟨⟨r,τ⟩,e,hr⟩:=step i x σ (by omega) h;cases r with
   |inl x'=>
    obtain⟨z,h3,h4⟩:=ih (i+1) x' τ (by omega) hr.2;exact⟨z,y8h_ e h3,h4⟩
   |inr y=>exact⟨_,y5r_ e,hr⟩
 exact this n 0 x σ (by omega) h0
theorem W.loopP{f:X->Option (X⊕Y)}{Q:Y->Prop}(n:Nat)(Inv:Nat->X->Prop){x:X}(h0:Inv 0 x)
  (step:∀i x,i<=n->Inv i x->W (f x) (LP (fun x'=>i<n/\Inv (i+1) x') Q)):W (A.loopP f x) Q:=by
 have:∀k i x,i+k=n->Inv i x->W (A.loopP f x) Q:=by
  intro k
  induction k with
  |zero=>
   intro i x hi h;obtain⟨r,e,hr⟩:=step i x (by omega) h;cases r with
   |inl x'=>exact absurd hr.1 (by omega)
   |inr y=>exact⟨_,y8z_ e,hr⟩
  | succ k ih=>
   intro i x hi h;obtain⟨r,e,hr⟩:=step i x (by omega) h;cases r with
   |inl x'=>
    obtain⟨z,h3,h4⟩:=ih (i+1) x' (by omega) hr.2;exact⟨z,yeo_ e h3,h4⟩
   |inr y=>exact⟨_,y8z_ e,hr⟩
 exact this n 0 x (by omega) h0
end
section
variable{R α:Type}{v:Vw α}{σ:Heap}{xs:List α}{x p:AVal}{as0:List AVal}{Q:R->Prop}
theorem W.len(h:SlV v σ xs x){K:Int->Option R}(k:W (K (xs.length:Int)) Q):W (lenV x K) Q:=W.to (h.len K) k
theorem W.scalS(h:SlV v σ xs x){X:Option R}(k:W X Q):W (scal x X) Q:=W.to (h.scal X) k
theorem W.ld0(h:At σ p (as0)){a:AVal}(hk:as0[0]?=some a){kd:Kd}{K:kd.ty->Option R}(c:W (asK kd a K) Q):W (ld σ p kd K) Q:=by
 obtain⟨l,o,md,sz,cs,rfl,_⟩:=id h;have:=h.cell hk;rw[Nat.add_zero]at this;refine W.to ?_ c;simp only[ld,this]
theorem W.ldl{l:Nat}(h:At σ (.ptr l 0) as0){k:Nat}{a:AVal}(hk:as0[k]?=some a){kd:Kd}{K:kd.ty->Option R}(c:W (asK kd a K) Q):W (ld σ (.ptr l k) kd K) Q:=
 W.to (h.ld0 hk K) c
theorem W.ldGG(h:At σ p as0){n:Nat}(hn:as0.length=n){K:AVal->Option R}(c:W (K (.agg as0)) Q):W (ldG σ p n K) Q:=W.to (h.ldG hn.symm K) c
theorem W.ldGo{l:Nat}(h:At σ (.ptr l 0) as0){k n:Nat}(hk:k+n<=as0.length){K:AVal->Option R}(c:W (K (.agg ((as0.drop k).take n))) Q):W (ldG σ (.ptr l k) n K) Q:=by
 have h2:=(h.drop k (by omega)).take n (by simp;omega);rw[Nat.zero_add]at h2;exact W.ldGG h2 (by simp;omega) c
theorem W.aggK{n:Nat}{cs:List AVal}(h:cs.length=n){K:List AVal->Option R}(c:W (K cs) Q):W (A.aggK (.agg cs) n K) Q:=by
 simp only[A.aggK,if_pos h];exact c
theorem W.ixk(h:SlV v σ xs x){i:Int}{a:α}(ha:xs[i.toNat]?=some a)(h0:0<=i){K:AVal->Option R}(c:∀p as0,At σ p as0->v.rel σ a as0->W (K p) Q){sz:Nat}(hs:sz=v.sz:=by rfl):W (ixA σ x sz i K) Q:=by
 subst hs;obtain⟨p,as0,h2,h3,h4⟩:=h.ix ha;refine W.to ?_ (c p as0 h2 h3);have:=h4 (Hle.refl σ) K
 rwa [Int.toNat_of_nonneg h0]at this
end
section
variable{R:Type}{σ:Heap}{x:AVal}{Q:R->Prop}
theorem W.ixI{xs:List Int}(h:SlV .int σ xs x){i:Int}{a:Int}(ha:xs[i.toNat]?=some a)(h0:0<=i){K:Int->Option R}(c:W (K a) Q):W (ixA σ x 1 i fun p=>ld σ p (.I .i64) K) Q:=
 W.ixk h ha h0 (fun p as0 hp hr=>by
  have hr:as0=[.int .i64 a]:=hr;subst hr;exact W.ld0 hp rfl c)
theorem W.ixIn{xs:List Int}(h:SlV .int σ xs x){i:Int}(h0:0<=i)(h1:i<xs.length){K:Int->Option R}(c:∀a,xs[i.toNat]?=some a->W (K a) Q):W (ixA σ x 1 i fun p=>ld σ p (.I .i64) K) Q:=by
 obtain⟨a,ha⟩:∃a,xs[i.toNat]?=some a:=⟨_,List.getElem?_eq_getElem (by omega)⟩;exact W.ixI h ha h0 (c a ha)
theorem W.ixB{xs:List Bool}(h:SlV .bool σ xs x){i:Int}{a:Bool}(ha:xs[i.toNat]?=some a)(h0:0<=i){K:Bool->Option R}(c:W (K a) Q):W (ixA σ x 1 i fun p=>ld σ p .B K) Q:=
 W.ixk h ha h0 (fun p as0 hp hr=>by
  have hr:as0=[.bool a]:=hr;subst hr;exact W.ld0 hp rfl c)
theorem W.ixS{α:Type}{v:Vw α}{xs:List (List α)}(h:SlV v.sl σ xs x){i:Int}{a:List α}(ha:xs[i.toNat]?=some a)(h0:0<=i){K:AVal->Option R}(c:∀y,SlV v σ a y->W (K y) Q):W (ixA σ x 1 i fun p=>ld σ p .V K) Q:=
 W.ixk h ha h0 (fun p as0 hp hr=>by
  obtain⟨y,rfl,hy⟩:=hr;exact W.ld0 hp rfl (c y hy))
theorem W.ixSn{α:Type}{v:Vw α}{xs:List (List α)}(h:SlV v.sl σ xs x){i:Int}(h0:0<=i)(h1:i<xs.length){K:AVal->Option R}(c:∀a y,xs[i.toNat]?=some a->SlV v σ a y->W (K y) Q):W (ixA σ x 1 i fun p=>ld σ p .V K) Q:=by
 obtain⟨a,ha⟩:∃a,xs[i.toNat]?=some a:=⟨_,List.getElem?_eq_getElem (by omega)⟩;exact W.ixS h ha h0 fun y hy=>c a y ha hy
end
theorem Hle.mono{σ τ υ:Heap}(h:Hle σ τ)(k:Hle τ υ):Hle σ υ:=h.trans k
structure Loc(σ:Heap)(l:Nat)(cs:List AVal):Prop where
 lt:l<σ.next
 get:∃sz,σ.get l=some (.cells .rw sz cs)
section
variable{σ τ:Heap}{l k:Nat}{cs:List AVal}
theorem Loc.mono(h:Loc σ l cs)(L:Hle σ τ):Loc τ l cs:=⟨Nat.lt_of_lt_of_le h.lt L.next,h.get.elim fun sz e=>⟨sz,L.get _ _ h.lt e⟩⟩
theorem Loc.at(h:Loc σ l cs):At σ (.ptr l 0) cs:=h.get.elim fun _ e=>At.of_get h.lt e
theorem Hle.ofk(L:Hle σ τ)(hk:σ.next<=k){υ:Heap}(M:Hle (τ.kill k) υ):Hle σ υ:=(L.kill hk).trans M
end
section
variable{R:Type}{σ τ:Heap}{Q:R->Prop}
theorem W.new{sz:Nat}{cs:List AVal}{K:Nat->Heap->Option R}(c:∀l τ,l=σ.next->Hle σ τ->Loc τ l cs->τ.next=σ.next+1->W (K l τ) Q):W (newK σ sz cs K) Q:=
 c _ _ rfl ((Hle.refl σ).new _) ⟨Nat.lt_succ_self _,sz,by rw[yi_,if_pos rfl]⟩ rfl
theorem W.newg{sz:Nat}{cs:List AVal}{K:Nat->Heap->Option R}(c:∀l τ,l=σ.next->Hle σ τ->At τ (.ptr l 0) cs->τ.get l=some (.cells .rw sz cs)->τ.next=σ.next+1->W (K l τ) Q):W (newK σ sz cs K) Q:=
 c _ _ rfl ((Hle.refl σ).new _) (At.new _ _ _) (by rw[yi_,if_pos rfl]) rfl
theorem W.st{l o:Nat}{cs vs:List AVal}(h:Loc σ l cs)(hv:o+vs.length<=cs.length){K:Heap->Option R}(c:∀τ,Hle (σ.kill l) τ->τ.next=σ.next->Loc τ l (cs.take o++vs++cs.drop (o+vs.length))->W (K τ) Q):W (stC σ (.ptr l o) vs K) Q:=by
 obtain⟨sz,e⟩:=h.get;refine W.to (o':=K (σ.set l (.cells .rw sz (cs.take o++vs++cs.drop (o+vs.length))))) ?_ (c _ (Hle.kill_set ..) rfl ⟨h.lt,sz,by rw[y1r_,if_pos rfl]⟩);simp only[stC,e,if_pos hv]
theorem W.st0{l:Nat}{cs vs:List AVal}(h:Loc σ l cs)(hv:vs.length=cs.length){K:Heap->Option R}(c:∀τ,Hle (σ.kill l) τ->τ.next=σ.next->Loc τ l vs->W (K τ) Q):W (stC σ (.ptr l 0) vs K) Q:=by
 refine W.st h (by omega) fun τ a b d=>c τ a b ?_;have:cs.take 0++vs++cs.drop (0+vs.length)=vs:=by simp[hv]
 rwa [this]at d
theorem W.ldL{l o:Nat}{cs:List AVal}(h:Loc σ l cs){a:AVal}(hk:cs[o]?=some a){kd:Kd}{K:kd.ty->Option R}(c:W (asK kd a K) Q):W (ld σ (.ptr l o) kd K) Q:=W.ldl h.at hk c
theorem W.ldGL{l o n:Nat}{cs:List AVal}(h:Loc σ l cs)(hk:o+n<=cs.length){K:AVal->Option R}(c:W (K (.agg ((cs.drop o).take n))) Q):W (ldG σ (.ptr l o) n K) Q:=W.ldGo h.at hk c
theorem W.fldp{l o k:Nat}{K:AVal->Option R}(c:W (K (.ptr l (o+k))) Q):W (fld (.ptr l o) k K) Q:=c
theorem W.asI{k:IntKind}{n:Int}{K:Int->Option R}(c:W (K n) Q):W (asK (.I k) (.int k n) K) Q:=by
 refine W.to ?_ c;simp[asK]
theorem W.asB{n:Bool}{K:Bool->Option R}(c:W (K n) Q):W (asK .B (.bool n) K) Q:=c
theorem W.asV{n:AVal}{K:AVal->Option R}(c:W (K n) Q):W (asK .V n K) Q:=c
theorem W.ixIc{x:AVal}{xs:List Int}{i:Nat}{a:Int}(h:SlV .int σ xs x)(ha:xs[i]?=some a){K:Int->Option R}(c:W (K a) Q):W (ixA σ x 1 (i:Int) fun p=>ld σ p (.I .i64) K) Q:=W.ixI h (by simpa using ha) (by omega) c
theorem W.ixBc{x:AVal}{xs:List Bool}{i:Nat}{a:Bool}(h:SlV .bool σ xs x)(ha:xs[i]?=some a){K:Bool->Option R}(c:W (K a) Q):W (ixA σ x 1 (i:Int) fun p=>ld σ p .B K) Q:=W.ixB h (by simpa using ha) (by omega) c
theorem W.ixSnc{α:Type}{v:Vw α}{x:AVal}{xs:List (List α)}{i:Nat}(h:SlV v.sl σ xs x)(hi:i<xs.length){K:AVal->Option R}(c:∀a y,xs[i]?=some a->SlV v σ a y->W (K y) Q):W (ixA σ x 1 (i:Int) fun p=>ld σ p .V K) Q:=W.ixSn h (by omega) (by omega) (by simpa using c)
theorem W.ixkc{α:Type}{v:Vw α}{x:AVal}{xs:List α}{i:Nat}{a:α}(h:SlV v σ xs x)(ha:xs[i]?=some a){K:AVal->Option R}(c:∀p as0,At σ p as0->v.rel σ a as0->W (K p) Q){sz:Nat}(hs:sz=v.sz:=by rfl):W (ixA σ x sz (i:Int) K) Q:=W.ixk h (by simpa using ha) (by omega) c hs
theorem W.ixkL{α:Type}{v:Vw α}{τ:Heap}{x:AVal}{xs:List α}{i:Nat}{a:α}(h:SlV v σ xs x)(L:Hle σ τ)(ha:xs[i]?=some a){K:AVal->Option R}(c:∀p as0,At σ p as0->v.rel σ a as0->W (K p) Q){sz:Nat}(hs:sz=v.sz:=by rfl):W (ixA τ x sz (i:Int) K) Q:=by
 subst hs;obtain⟨p,as0,h2,h3,h4⟩:=h.ix ha;exact W.to (h4 L K) (c p as0 h2 h3)
theorem W.ixkLS{α:Type}{v:Vw α}{τ:Heap}{x:AVal}{xs:List (List α)}{i:Nat}{a:List α}(h:SlV v.sl σ xs x)(L:Hle σ τ)(ha:xs[i]?=some a){K:AVal->Option R}(c:∀y,SlV v σ a y->W (K y) Q):W (ixA τ x 1 (i:Int) fun p=>ld τ p .V K) Q:=
 W.ixkL h L ha fun p us hp hr=>by
  obtain⟨y,rfl,hy⟩:=hr;exact W.ld0 (hp.mono L) rfl (c y hy)
theorem W.putC{cs vs:List AVal}{off n:Nat}{K:List AVal->Option R}(h:Nat.ble (off+n) cs.length=true)(c:W (K (cs.take off++vs++cs.drop (off+n))) Q):W (A.putC cs off n vs K) Q:=by
 simp only[A.putC,if_pos (Nat.le_of_ble_eq_true h)];exact c
theorem W.scP{l o:Nat}{X:Option R}(c:W X Q):W (scal (.ptr l o) X) Q:=c
theorem W.scN{X:Option R}(c:W X Q):W (scal .nils X) Q:=c
theorem W.nck{l o:Nat}{X:Option R}(c:W X Q):W (nilck (.ptr l o) X) Q:=c
theorem W.nnil{T:TypeId->Option TI}{K:Bool->Option R}(c:W (K true) Q):W (eqI T σ true .nili .nili K) Q:=c
end
section
variable{R α:Type}{v:Vw α}{σ0 σ:Heap}{xs ys:List α}{x y:AVal}{Q:R->Prop}
end
theorem W.e0{R:Type}{Q:R->Prop}{σ:Heap}{l o:Nat}{cs:List AVal}{a:AVal}{kd:Kd}{K:kd.ty->Option R}(c:W (asK kd a K) Q)(h:Loc σ l cs:=by assumption)(hk:cs[o]?=some a:=by with_unfolding_all rfl):W (ld σ (.ptr l o) kd K) Q:=W.ldL h hk c
theorem W.e1{R:Type}{Q:R->Prop}{σ:Heap}{l o n:Nat}{cs:List AVal}{K:AVal->Option R}(c:W (K (.agg ((cs.drop o).take n))) Q)(h:Loc σ l cs:=by assumption)(hk:Nat.ble (o+n) cs.length=true:=by with_unfolding_all rfl):W (ldG σ (.ptr l o) n K) Q:=W.ldGL h (Nat.le_of_ble_eq_true hk) c
theorem W.e2{R:Type}{Q:R->Prop}{σ:Heap}{x:AVal}{xs:List Int}{i:Nat}{a:Int}{K:Int->Option R}(c:W (K a) Q)(h:SlV .int σ xs x:=by assumption)(ha:xs[i]?=some a:=by assumption):W (ixA σ x 1 (i:Int) fun p=>ld σ p (.I .i64) K) Q:=W.ixIc h ha c
theorem W.e3{R:Type}{Q:R->Prop}{n:Nat}{cs:List AVal}{K:List AVal->Option R}(c:W (K cs) Q)(h:cs.length=n:=by with_unfolding_all rfl):W (Go.Proofs.YtekehmgfedmflaaGreatDoor.A.aggK (.agg cs) n K) Q:=W.aggK h c
end
section
open Go
inductive Er where
 |text|limit|budget|range|blocks|proof|cert
 deriving DecidableEq
def Er.g:Er->Nat
 | .text=>gText
 | .limit=>yk3_
 | .budget=>yhw_
 | .range=>yjf_
 | .blocks=>yj8_
 | .proof=>yjw_
 | .cert=>gCert
def Er.s:Er->List UInt8
 | .text=>[110,111,116,32,97,115,32,105,116,32,105,115,32,119,114,105,116,116,101,110]
 | .limit=>[109,111,114,101,32,116,104,97,110,32,109,97,121,32,98,101]
 | .budget=>[116,104,101,32,98,117,100,103,101,116,32,105,115,32,117,115,101,100,32,117,112]
 | .range=>[97,32,110,117,109,98,101,114,32,111,117,116,32,111,102,32,105,116,115,32,114,97,110,103,101]
 | .blocks=>[109,111,114,101,32,116,104,97,110,32,116,119,111,32,98,108,111,99,107,115]
 | .proof=>[97,32,115,116,101,112,32,116,104,97,116,32,100,111,101,115,32,110,111,116,32,102,111,108,108,111,119]
 | .cert=>[110,111,32,99,101,114,116,105,102,105,99,97,116,101,32,111,102,32,105,116]
def IsE(σ:Heap)(v:AVal)(e:Er):Prop:=e.g<σ.next/\σ.get e.g=some (.cells .rz 1 [v])/\∃k,v=.ifc tErr (.ptr k 0)/\k<σ.next/\σ.get k=some (.cells .rz 1 [.str ⟨e.s.toArray⟩])
def GlS(E:List Er)(σ:Heap):Prop:=∀e∈E,∃v,IsE σ v e
abbrev Flt:=Option (Er×Option Int)
def IsF(σ:Heap)(v:AVal):Flt->Prop
 |none=>v=.nili
 |some (e,none)=>IsE σ v e
 |some (e,some pos)=>∃l u,v=.ifc tAt (.ptr l 0)/\At σ (.ptr l 0) [.int .i64 pos,u]/\IsE σ u e
section
variable{σ τ:Heap}{v w:AVal}{e e':Er}{f:Flt}
theorem IsE.mono(h:IsE σ v e)(L:Hle σ τ):IsE τ v e:=by
 obtain⟨h1,h2,k,h3,h4,h5⟩:=h;exact⟨Nat.lt_of_lt_of_le h1 L.next,L.get _ _ h1 h2,k,h3,Nat.lt_of_lt_of_le h4 L.next,L.get _ _ h4 h5⟩
theorem GlS.mono{E:List Er}(h:GlS E σ)(L:Hle σ τ):GlS E τ:=fun e he=>(h e he).elim fun v hv=>⟨v,hv.mono L⟩
theorem GlS.sub{E F:List Er}(h:GlS E σ)(k:∀e∈F,e∈E):GlS F σ:=fun e he=>h e (k e he)
theorem IsF.mono(h:IsF σ v f)(L:Hle σ τ):IsF τ v f:=by
 match f,h with
 |none,h=>exact h
 |some (e,none),h=>exact IsE.mono h L
 |some (e,some pos),⟨l,u,h1,h2,h3⟩=>exact⟨l,u,h1,h2.mono L,h3.mono L⟩
theorem IsE.at(h:IsE σ v e):At σ (.ptr e.g 0) [v]:=At.of_get h.1 h.2.1
theorem IsF.nil(h:IsF σ v f){Rt:Type}(K:Bool->Option Rt):A.eqI (tiOf prg) σ true v .nili K=K f.isNone:=by
 match f,h with
 |none,h=>subst h;rfl
 |some (e,none),⟨_,_,k,h,_⟩=>subst h;rfl
 |some (e,some pos),⟨l,u,h,_⟩=>subst h;rfl
theorem IsE.scal(h:IsE σ v e){Rt:Type}(X:Option Rt):A.scal v X=X:=by
 obtain⟨_,_,k,h,_⟩:=h;subst h;rfl
end
section
variable{R:Type}{σ:Heap}{v w:AVal}{e e':Er}{f:Flt}{Q:R->Prop}
theorem W.fnil(h:IsF σ v f){K:Bool->Option R}(c:W (K f.isNone) Q):W (eqI (tiOf prg) σ true v .nili K) Q:=W.to (h.nil K) c
theorem W.escal(h:IsE σ v e){X:Option R}(c:W X Q):W (scal v X) Q:=W.to (h.scal X) c
theorem W.glob{E:List Er}(h:GlS E σ)(e:Er){K:AVal->Option R}(c:∀v,IsE σ v e->W (K v) Q){g:Nat}(hg:g=e.g:=by rfl)(he:e∈E:=by decide):W (ld σ (.ptr g 0) .V K) Q:=by
 subst hg;obtain⟨v,hv⟩:=h e he;exact W.ld0 hv.at rfl (c v hv)
end
end
section
open Go
theorem y49_{a b:Int}:ordL a b=true↔a.natAbs<b.natAbs\/(a.natAbs=b.natAbs/\a<=b):=by simp[ordL]
theorem yef_(a b:Int):(ordL a b||ordL b a)=true:=by
 rw[Bool.or_eq_true,y49_,y49_];omega
theorem ye7_(a b c:Int)(h:ordL a b=true)(k:ordL b c=true):ordL a c=true:=by
 rw[y49_]at *;omega
def y4_:List Int->List Int
 |[]=>[]
 |[x]=>[x]
 |x::y::t=>if x=y then y4_ (y::t)else x::y4_ (y::t)
theorem y2x_{v:Int}:∀{xs:List Int},v∈y4_ xs↔v∈xs
 |[]=>Iff.rfl
 |[x]=>Iff.rfl
 | x::y::t=>by
  rw[y4_]
  split
  ·rename_i h;subst h
   rw[y2x_];simp
  ·rw[List.mem_cons,y2x_,List.mem_cons (a:=v) (b:=x)]
theorem y3c_(x y:Int)(t:List Int):y4_ (x::y::t)=if x=y then y4_ (y::t)else x::y4_ (y::t):=by rw[y4_]
theorem y2i_(a:Int):∀xs:List Int,y4_ (xs++[a])=if xs.getLast?=some a then y4_ xs else y4_ xs++[a]
 |[]=>rfl
 |[x]=>by
  show y4_ [x,a]=_;rw[y3c_];by_cases h:x=a
  ·subst h;rw[if_pos rfl];rw[if_pos (by rfl)]
  ·rw[if_neg h,if_neg (by simpa using h)];rfl
 |x::y::t=>by
  have ih:=y2i_ a (y::t);show y4_ (x::y::(t++[a]))=_;have e:(x::y::t).getLast?=(y::t).getLast?:=by simp[List.getLast?_cons_cons]
  rw[e,y3c_,y3c_];have ih:y4_ (y::(t++[a]))=_:=ih;rw[ih]
  split<;>split<;>simp
theorem y4f_:∀xs:List Int,(y4_ xs).length<=xs.length
 |[]=>Nat.le_refl _
 |[x]=>Nat.le_refl _
 |x::y::t=>by
  have ih:=y4f_ (y::t);rw[y3c_]
  split
  ·simp at ih⊢;omega
  ·simp at ih⊢;omega
def ltL(a b:Int):Prop:=a.natAbs<b.natAbs\/(a.natAbs=b.natAbs/\a<b)
def normL(c:List Int):List Int:=y4_ (yf_ c)
theorem yd3_{c:List Int}{v:Int}:v∈yf_ c↔v∈c:=List.mem_mergeSort
theorem yd_{c:List Int}{v:Int}:v∈normL c↔v∈c:=by rw[normL,y2x_,yd3_]
theorem y2y_:∀{xs:List Int},xs.Pairwise (fun a b=>ordL a b=true)->(y4_ xs).Pairwise ltL
 |[],_=>List.Pairwise.nil
 |[x],_=>by simp[y4_]
 | x::y::t,h=>by
  have h':=List.pairwise_cons.1 h;rw[y4_]
  split
  ·exact y2y_ h'.2
  ·rename_i hne
   refine List.pairwise_cons.2 ⟨fun v hv=>?_,y2y_ h'.2⟩;rw[y2x_]at hv;have hxv:=h'.1 v hv;have hxy:=h'.1 y (by simp);have hv2:v=y\/ordL y v=true:=by
    rcases List.mem_cons.1 hv with rfl|hv
    ·exact .inl rfl
    ·exact .inr ((List.pairwise_cons.1 h'.2).1 v hv)
   rw[y49_]at hxv hxy;unfold ltL;rcases hv2 with rfl|h2
   ·omega
   ·rw[y49_]at h2;omega
theorem y1g_(c:List Int):(normL c).Pairwise ltL:=
 y2y_ (List.pairwise_mergeSort ye7_ yef_ c)
theorem y9c_:∀{xs ys:List Int},xs.Pairwise ltL->ys.Pairwise ltL->(∀v,v∈xs↔v∈ys)->xs=ys
 |[],[],_,_,_=>rfl
 |[],y::ys,_,_,h=>by have:=(h y).2 (by simp);cases this
 |x::xs,[],_,_,h=>by have:=(h x).1 (by simp);cases this
 | x::xs,y::ys,hx,hy,h=>by
  have hx':=List.pairwise_cons.1 hx;have hy':=List.pairwise_cons.1 hy;have exy:x=y:=by
   have h1:=(h x).1 (by simp);have h2:=(h y).2 (by simp);rcases List.mem_cons.1 h1 with h1|h1
   ·exact h1
   ·rcases List.mem_cons.1 h2 with h2|h2
    ·exact h2.symm
    ·have a:=hx'.1 y h2;have b:=hy'.1 x h1;unfold ltL at a b;omega
  subst exy;rw[y9c_ hx'.2 hy'.2 fun v=>?_];constructor
  ·intro hv
   rcases List.mem_cons.1 ((h v).1 (List.mem_cons_of_mem _ hv))with e|h2
   ·subst e;have a:=hx'.1 v hv;unfold ltL at a;omega
   ·exact h2
  ·intro hv
   rcases List.mem_cons.1 ((h v).2 (List.mem_cons_of_mem _ hv))with e|h2
   ·subst e;have a:=hy'.1 v hv;unfold ltL at a;omega
   ·exact h2
theorem y65_{c d:List Int}:normL c=normL d↔∀v,v∈c↔v∈d:=
 ⟨fun h v=>by rw[<-yd_,h,yd_],fun h=>y9c_ (y1g_ c) (y1g_ d) fun v=>by rw[yd_,yd_,h]⟩
theorem yb1_(c:List Int):(normL c).length<=c.length:=Nat.le_trans (y4f_ _) (by rw[y3f_];exact Nat.le_refl _)
theorem y90_(c:List Int):normL (normL c)=normL c:=y65_.2 fun v=>yd_
end
section
open Go
theorem yhu_{x:AVal}{α:Type}{v:Vw α}{σ:Heap}{xs:List α}(h:SlV v σ xs x):(x=.nils/\xs=[])\/∀{Rt:Type} (K:Bool->Option Rt),eqS x .nils K=K false:=by
 rcases h with h|⟨l,off,c,md,cs,rfl,_⟩
 ·exact .inl h
 ·exact .inr fun K=>rfl
theorem yh8_{σ:Heap}{xs:List Int}{x:AVal}(h:SlV .int σ xs x)(hb:xs.length<=1000000) :
  ∃y τ,S.z120 x σ=some (y,τ)/\Hle σ τ/\Acc .int σ.next τ xs y:=by
 unfold S.z120;rcases yhu_ h with ⟨rfl,rfl⟩|h1
 ·exact⟨.nils,σ,rfl,Hle.refl _,Acc.nil _ _ _⟩
 ·rw[h1]
  simp only[cond_false,newK];have ha:Acc Vw.int σ.next (σ.new (.cells .rw 1 [])) [] (.sl σ.next 0 0 none):=.inr ⟨σ.next,[],rfl,Nat.le_refl _,Nat.lt_succ_self _,by simp[Heap.new,Vw.int],by simp,fun i a hi=>by simp at hi⟩;have L:=(Hle.refl σ).new (.cells .rw 1 []);obtain⟨y,τ,e1,e2,e3,_⟩:=ha.app (bytes:=8) (w:=x) (ys:=xs) L (h.mono (ha.out_le L)) (by simp;omega) (by simp;omega);have e1:∀{Rt:Type} (K:AVal->Heap->Option Rt),appS (σ.new (.cells .rw 1 [])) 1 8 (.sl σ.next 0 0 none) x K=K y τ:=e1;exact⟨y,τ,by rw[e1],e2,by simpa using e3⟩
theorem ybf_(zs:List (List Int))(i:Nat):(zs.take i).flatten.length<=zs.flatten.length:=by
 conv=>rhs;rw[<-List.take_append_drop i zs]
 rw[List.flatten_append,List.length_append];omega
theorem y37_{zs:List (List Int)}{i:Nat}{z:List Int}(h:zs[i]?=some z):(zs.take (i+1)).flatten=(zs.take i).flatten++z:=by
 rw[List.take_add_one,h,List.flatten_append];simp
end
section
open Go
def ents(ps:List (Int×AVal)):List (AVal×AVal):=ps.map fun p=>(.int .i64 p.1,p.2)
def look:List (Int×AVal)->Int->Option AVal
 |[],_=>none
 |p::ps,n=>if n=p.1 then some p.2 else look ps n
def y1z_(ps:List (Int×AVal)):List Int:=ps.map (·.1)
structure MapV(σ:Heap)(l:Nat)(ps:List (Int×AVal)):Prop where
 lt:l<σ.next
 get:σ.get l=some (.map (ents ps))
 nodup:(y1z_ ps).Nodup
theorem MapV.mono{σ τ:Heap}{l:Nat}{ps:List (Int×AVal)}(h:MapV σ l ps)(L:Hle σ τ):MapV τ l ps:=⟨Nat.lt_of_lt_of_le h.lt L.next,L.get _ _ h.lt h.get,h.nodup⟩
theorem MapV.new(σ:Heap):MapV (σ.new (.map [])) σ.next []:=⟨Nat.lt_succ_self _,by rw[yi_,if_pos rfl];rfl,by simp[y1z_]⟩
theorem yfh_{ps:List (Int×AVal)}{n:Int}:look ps n=none↔n∉y1z_ ps:=by
 induction ps with
 |nil=>simp[look,y1z_]
 |cons p ps ih=>
  simp only[look,y1z_,List.map_cons,List.mem_cons];by_cases h:n=p.1
  ·simp[h]
  ·simp only[h,if_false,false_or];exact ih
theorem y5w_(n:Int):∀(ps:List (Int×AVal)) (i:Nat),(look ps n=none/\mfind .i64 n (ents ps) i=some none)\/∃j x,look ps n=some x/\mfind .i64 n (ents ps) i=some (some (i+j))/\ps[j]?=some (n,x)
 |[],i=>.inl ⟨rfl,rfl⟩
 | p::ps,i=>by
  by_cases h:n=p.1
  ·exact .inr ⟨0,p.2,by simp[look,h],by simp[ents,mfind,h],by rw[h];rfl⟩
  ·rcases y5w_ n ps (i+1)with ⟨h1,h2⟩|⟨j,x,h1,h2,h3⟩
   ·exact .inl ⟨by simp[look,h,h1],by simp only[ents,List.map_cons,mfind,if_true,if_neg h];exact h2⟩
   ·exact .inr ⟨j+1,x,by simp[look,h,h1],by simp only[ents,List.map_cons,mfind,if_true,if_neg h];rw[show i+(j+1)=i+1+j by omega];exact h2,by simpa using h3⟩
section
variable{σ:Heap}{l:Nat}{ps:List (Int×AVal)}{n:Int}{x:AVal}
theorem MapV.mget(h:MapV σ l ps){Rt:Type}(K:Option AVal->Option Rt):mgetK σ (.map l) .i64 n K=K (look ps n):=by
 simp only[mgetK,h.get];rcases y5w_ n ps 0 with ⟨h1,h2⟩|⟨j,x,h1,h2,h3⟩
 ·rw[h2,h1]
 ·rw[h2,h1]
  have:(ents ps)[0+j]?=some (.int .i64 n,x):=by rw[Nat.zero_add];simp[ents,h3]
  simp only[this]
theorem MapV.mgetZ(h:MapV σ l ps)(z:AVal){Rt:Type}(K:AVal->Bool->Option Rt):mgetZ σ (.map l) .i64 n z K=K ((look ps n).getD z) (look ps n).isSome:=by
 unfold A.mgetZ;rw[h.mget];cases look ps n<;>rfl
theorem yby_:∀(ps:List (Int×AVal)) (j:Nat) (n:Int) (x y:AVal),ps[j]?=some (n,y)->(y1z_ ps).Nodup->(y1z_ (ps.set j (n,x)))=y1z_ ps/\∀k,look (ps.set j (n,x)) k=if k=n then some x else look ps k
 |[],j,n,x,y,h,_=>by simp at h
 |p::ps,0,n,x,y,h,hnd=>by
  simp at h;subst h;refine⟨rfl,fun k=>?_⟩;simp only[List.set_cons_zero,look]
  split<;>rfl
 | p::ps,j+1,n,x,y,h,hnd=>by
  simp only[y1z_,List.map_cons,List.nodup_cons]at hnd;have h':ps[j]?=some (n,y):=by simpa using h
  obtain⟨h1,h2⟩:=yby_ ps j n x y h' hnd.2;refine⟨by simp only[y1z_,List.set_cons_succ,List.map_cons]at h1⊢;rw[h1],fun k=>?_⟩;simp only[List.set_cons_succ,look,h2];by_cases hk:k=p.1
  ·have:k≠n:=fun e=>hnd.1 (by rw[<-hk,e];exact List.mem_map.2 ⟨(n,y),List.mem_of_getElem? h',rfl⟩)
   simp[hk];rw[hk]at this;simp[this]
  ·simp[hk]
theorem y7k_:∀(ps:List (Int×AVal)) (n:Int) (x:AVal),look ps n=none->∀k,look (ps++[(n,x)]) k=if k=n then some x else look ps k
 |[],n,x,_,k=>by simp[look]
 | p::ps,n,x,h,k=>by
  simp only[look]at h
  split at h
  ·cases h
  ·rename_i hn
   simp only[List.cons_append,look,y7k_ ps n x h];by_cases hk:k=p.1
   ·have:k≠n:=fun e=>hn (by rw[<-e,hk])
    simp[hk];rw[hk]at this;simp[this]
   ·simp[hk]
theorem yha_(ps:List (Int×AVal))(j:Nat)(n:Int)(x:AVal):(ents ps).set j (.int .i64 n,x)=ents (ps.set j (n,x)):=by simp[ents,List.map_set]
theorem MapV.mput(h:MapV σ l ps)(n:Int)(x:AVal):∃qs,(∀{Rt:Type} (K:Heap->Option Rt),mputK σ (.map l) .i64 n x K=K (σ.set l (.map (ents qs))))/\MapV (σ.set l (.map (ents qs))) l qs/\(∀k,look qs k=if k=n then some x else look ps k)/\qs.length<=ps.length+1:=by
 rcases y5w_ n ps 0 with ⟨h1,h2⟩|⟨j,y,h1,h2,h3⟩
 ·refine⟨ps++[(n,x)],fun K=>?_,⟨h.lt,by rw[y1r_,if_pos rfl],?_⟩,y7k_ ps n x h1,by simp⟩
  ·simp only[mputK,h.get,h2];congr 3;simp[ents]
  ·simp only[y1z_,List.map_append,List.map_cons,List.map_nil]
   exact List.nodup_append.2 ⟨h.nodup,by simp,fun a ha b hb e=>by simp at hb;subst hb;subst e;exact yfh_.1 h1 ha⟩
 ·obtain⟨g1,g2⟩:=yby_ ps j n x y h3 h.nodup
  refine⟨ps.set j (n,x),fun K=>?_,⟨h.lt,by rw[y1r_,if_pos rfl],by rw[g1];exact h.nodup⟩,g2,by simp⟩;simp only[mputK,h.get,h2,Nat.zero_add,yha_]
end
end
section
open Go
theorem y9b_{σ:Heap}{l:Int}(h : -1152921504606846976<=l/\l<=9223372036854775807):S.z55 l σ=some (l.natAbs:Int):=by
 unfold S.z55;have w:IntKind.i64.wrap (0-l) = -l:=by rw[wrapS]<;>omega
 rw[w]
 congr 1
 split<;>omega
abbrev vIs:Vw (List Int):=Vw.sl .int
end
section
open Go
theorem sk{n:Nat}(h:n<9223372036854775807:=by omega):IntKind.i64.wrap ((n:Int)+1)=((n+1:Nat):Int):=by rw[wrapS]<;>omega
theorem upto{α:Type}{P:Nat->α->Prop}{xs:List α}{i:Nat}{z:α}(hI:∀j a,j<i->xs[j]?=some a->P j a)(hz:xs[i]?=some z)(hp:P i z):∀j a,j<i+1->xs[j]?=some a->P j a:=fun j a hj ha=>by
 rcases Nat.lt_succ_iff_lt_or_eq.1 hj with hj|hj
 ·exact hI j a hj ha
 ·rw[hj]at ha⊢;rw[hz]at ha;cases ha;exact hp
theorem upto0{α:Type}{P:Nat->α->Prop}{xs:List α}:∀j a,j<0->xs[j]?=some a->P j a:=fun j a hj=>by omega
def isL(l vars:Int):Bool:=decide (l≠0)&&decide (-vars<=l)&&decide (l<=vars)
theorem ym_{l vars:Int}:isL l vars=true↔l≠0/\-vars<=l/\l<=vars:=by simp[isL,and_assoc]
theorem y1o_{σ:Heap}{l vars:Int}(h0 : -1000000000<=vars)(h1:vars<=1000000000):S.z53 l vars σ=some (isL l vars):=by
 unfold S.z53 isL;have w:IntKind.i64.wrap (0-vars) = -vars:=by rw[wrapS]<;>omega
 rw[w];by_cases h:l=0
 ·subst h;rfl
 ·have:(l != 0)=true:=by simpa using h
  rw[this];by_cases h2 : -vars<=l
  ·simp[h,h2]
  ·simp[h,h2]
theorem ycg_{σ:Heap}{xs:List Int}{x f:AVal}(p:Int->Bool)(hx:SlV .int σ xs x)(hb:xs.length<=4611686018427387904)
  (hf:∀n∈xs,∀{Rt:Type} (K:AVal->Heap->Option Rt),callV S.z126.T f [.int .i64 n] σ K=K (.bool (p n)) σ) :
  W (S.z126 x f σ) fun r=>r.2=σ/\r.1=match xs.findIdx? p with
   |some k=>(k:Int)
   |none => -1:=by
 unfold S.z126
 repeat' with_reducible first|refine W.bind ?_|refine W.len (by assumption) ?_
 refine W.loop xs.length (fun i x τ=>x=(i:Int)/\σ=τ/\∀j a,j<i->xs[j]?=some a->p a=false) ⟨rfl,rfl,fun j a hj=>by omega⟩ fun i x τ hi hI=>?_;obtain⟨rfl,rfl,hI⟩:=hI;unfold S.z126.b0
 repeat' (first|(with_reducible (first|refine W.stop ?_|refine W.ret ?_))|(with_reducible refine W.cnd (fun hc=>?_) (fun hc=>?_)<;>(try simp only[qq,Kd.ty]at hc)<;>(try (exfalso;omega))))
 ·refine W.ixIn hx (by omega) (by omega) fun a ha=>?_
  rw[Int.toNat_natCast]at ha;refine W.to (hf a (List.mem_of_getElem? ha) _) ?_
  repeat' (first|(with_reducible (first|refine W.next ?_|refine W.stop ?_|refine W.ret ?_|refine W.asB ?_))|(with_reducible refine W.cnd (fun hc=>?_) (fun hc=>?_)<;>(try simp only[qq,Kd.ty]at hc)<;>(try (exfalso;omega))))
  ·refine⟨rfl,?_⟩
   have:xs.findIdx? p=some i:=by
    rw[List.findIdx?_eq_some_iff_getElem];obtain⟨h1,h2⟩:=List.getElem?_eq_some_iff.1 ha;refine⟨h1,by rw[h2];exact hc,fun j hj=>?_⟩;have:=hI j xs[j] hj (List.getElem?_eq_getElem _);simp[this]
   rw[this]
  ·refine⟨by omega,sk,rfl,upto (P:=fun _ a=>p a=false) hI ha hc⟩
 ·refine⟨rfl,?_⟩
  have:xs.findIdx? p=none:=by
   rw[List.findIdx?_eq_none_iff];intro a ha;obtain⟨j,hj,e⟩:=List.getElem_of_mem ha;exact hI j a (by omega) (by rw[List.getElem?_eq_getElem hj,e])
  rw[this]
theorem y1f_{σ:Heap}{xs:List Int}{x f:AVal}(p:Int->Bool)(hx:SlV .int σ xs x)(hb:xs.length<=4611686018427387904)
  (hf:∀n∈xs,∀{Rt:Type} (K:AVal->Heap->Option Rt),callV S.z126.T f [.int .i64 n] σ K=K (.bool (p n)) σ) :
  W (S.z123 x f σ) fun r=>r=(xs.any p,σ):=by
 unfold S.z123;refine W.call (ycg_ p hx hb hf) fun r ⟨h1,h2⟩=>?_;obtain⟨r,τ⟩:=r;simp only at h1 h2;subst h1
 repeat' with_reducible refine W.ret ?_
 cases h:xs.findIdx? p with
 |none=>
  rw[h]at h2;simp only at h2;subst h2;rw[List.findIdx?_eq_none_iff]at h;have:xs.any p=false:=by rw[List.any_eq_false];intro a ha;simp[h a ha]
  rw[this];rfl
 |some k=>
  rw[h]at h2;simp only at h2;subst h2;rw[List.findIdx?_eq_some_iff_getElem]at h;obtain⟨h1,h2,_⟩:=h;have:xs.any p=true:=List.any_eq_true.2 ⟨_,List.getElem_mem h1,h2⟩;rw[this];have:decide ((k:Int)>=0)=true:=by simp
  rw[this]
def badC(vars:Int)(c:List Int):Bool:=c.any fun l => !isL l vars
def chkC(vars:Int)(cs:List (List Int)):Flt:=
 if vars<0\/vars>4000\/cs.length>20000\/cs.flatten.length>80000 then some (.limit,none)
 else(cs.findIdx? (badC vars)).map fun k=>(.range,some (k:Int))
theorem y6q_(zs:List (List Int))(i:Nat):(zs.take i).flatten.length<=zs.flatten.length:=ybf_ zs i
theorem yb8_{zs:List (List Int)}{z:List Int}(h:z∈zs):z.length<=zs.flatten.length:=by
 obtain⟨i,hi,e⟩:=List.getElem_of_mem h;have h1:=y6q_ zs (i+1);rw[y37_ (z:=z) (by rw[List.getElem?_eq_getElem hi,e]),List.length_append]at h1;omega
theorem ycc_{α:Type}{p:α->Bool}{xs:List α}{i:Nat}(h:∀j a,j<i->xs[j]?=some a->p a=false)(hi:xs.length<=i):xs.findIdx? p=none:=by
 rw[List.findIdx?_eq_none_iff];intro a ha;obtain⟨j,hj,e⟩:=List.getElem_of_mem ha;exact h j a (by omega) (by rw[List.getElem?_eq_getElem hj,e])
theorem ybm_{α:Type}{p:α->Bool}{xs:List α}{i:Nat}{a:α}(h:∀j a,j<i->xs[j]?=some a->p a=false)(ha:xs[i]?=some a)(hp:p a=true):xs.findIdx? p=some i:=by
 rw[List.findIdx?_eq_some_iff_getElem];obtain⟨h1,h2⟩:=List.getElem?_eq_some_iff.1 ha;refine⟨h1,by rw[h2];exact hp,fun j hj=>?_⟩;have:=h j xs[j] hj (List.getElem?_eq_getElem _);simp[this]
theorem ycs_{σ:Heap}{cs:List (List Int)}{p x:AVal}(hx:SlV vIs σ cs x)(hb:cs.flatten.length<=1000000000)(hl:cs.length<=1000000000) :
  W (loopP (S.z51.b0 p x cs.length σ) (0,0)) fun r=>r=(cs.flatten.length:Int):=by
 refine W.loopP cs.length (fun i y=>y=(((cs.take i).flatten.length:Int),(i:Int))) (by simp) fun i y hi hI=>?_;subst hI;unfold S.z51.b0;dsimp only
 repeat' (first|(with_reducible refine W.stopP ?_)|(with_reducible refine W.cnd (fun hc=>?_) (fun hc=>?_)<;>(try simp only[qq,Kd.ty]at hc)<;>(try (exfalso;omega))))
 ·refine W.ixSn hx (by omega) (by omega) fun z w hz hw=>?_
  rw[Int.toNat_natCast]at hz
  repeat' with_reducible first|refine W.nextP ?_|refine W.len (by assumption) ?_
  have h1:=y6q_ cs (i+1);rw[y37_ hz,List.length_append]at h1;refine⟨by omega,?_⟩;rw[y37_ hz,List.length_append,sk]
  congr 1
  rw[wrapS]<;>omega
 ·rw[List.take_of_length_le (by omega)]
theorem ycf_{σ:Heap}{vars:Int}{cs:List (List Int)}{x:AVal}(hg:GlS [.limit,.range] σ)(hx:SlV vIs σ cs x)(hb:cs.flatten.length<=1000000000)(hn:cs.length<=1000000000) :
  W (S.z51 (.agg [.int .i64 vars,x]) σ) fun r=>IsF r.2 r.1 (chkC vars cs)/\Hle σ r.2:=by
 unfold S.z51
 repeat' (with_reducible refine W.e3 ?_)
 refine W.new fun l τ hl L h hnτ=>?_;replace hg:=hg.mono L;replace hx:=hx.mono L;have hnx:=L.next
 repeat' with_reducible first|refine W.bind ?_|refine W.asV ?_|refine W.len (by assumption) ?_|refine W.e0 ?_
 refine W.mono (ycs_ hx hb hn) fun r hr=>?_;subst hr;by_cases hbad:vars<0\/vars>4000\/cs.length>20000\/cs.flatten.length>80000
 ·have e:chkC vars cs=some (.limit,none):=if_pos hbad
  rw[e]
  repeat' (first|(with_reducible (first|refine W.ret ?_|refine W.bind ?_|refine W.asI ?_|refine W.asV ?_|refine W.len (by assumption) ?_|refine W.e0 ?_))|(with_reducible refine W.condT ?_ ?_;focus (first|(simp only[qq,Kd.ty];done)|(simp only[qq,Kd.ty];omega)|assumption))|(with_reducible refine W.cnd (fun hc=>?_) (fun hc=>?_)<;>(try simp only[qq,Kd.ty]at hc)<;>(try (exfalso;omega))))
  all_goals
   refine W.glob hg .limit fun v hv=>?_
   repeat' with_reducible refine W.ret ?_
   exact⟨hv,L⟩
 ·have e:chkC vars cs=(cs.findIdx? (badC vars)).map fun k=>(.range,some (k:Int)):=if_neg hbad
  rw[e]
  repeat' (first|(with_reducible (first|refine W.ret ?_|refine W.bind ?_|refine W.asI ?_|refine W.asV ?_|refine W.len (by assumption) ?_|refine W.e0 ?_))|(with_reducible refine W.condF ?_ ?_;focus (first|(simp only[qq,Kd.ty];done)|(simp only[qq,Kd.ty];omega)|assumption)))
  refine W.loop cs.length (fun i x τ'=>x=(i:Int)/\Hle τ τ'/\∀j a,j<i->cs[j]?=some a->badC vars a=false) ⟨rfl,Hle.refl _,upto0⟩ fun i x τ' hi hI=>?_;obtain⟨rfl,L',hI⟩:=hI;unfold S.z51.b1
  (with_reducible refine W.cnd (fun hc=>?_) (fun hc=>?_)<;>(try simp only[qq,Kd.ty]at hc)<;>(try (exfalso;omega)))
  ·refine W.ixSnc (hx.mono L') (by omega) fun z w hz hw=>?_
   have hbz:=yb8_ (List.mem_of_getElem? hz);refine W.call (y1f_ (fun n => !isL n vars) hw (by omega) fun n hn Rt K=>?_) fun r hr=>?_
   ·have hcell:=(h.mono L').at.cell (k:=0) rfl
    show((S.z52 n (.ptr l 0) τ').bind fun x=>K (retV [.B] x) τ')=_;unfold S.z52;simp only[fld,ld,hcell,asK,if_true,y1o_ (σ:=τ') (l:=n) (vars:=vars) (by omega) (by omega),Option.bind_some];rfl
   subst hr
   (with_reducible refine W.cnd (fun hq=>?_) (fun hq=>?_)<;>(try simp only[qq,Kd.ty]at hq)<;>(try (exfalso;omega)))
   ·refine W.glob (hg.mono L') .range fun v hv=>W.escal hv ?_
    refine W.new fun k τ2 hk L2 hk hnτ2=>?_
    repeat' with_reducible first|refine W.stop ?_|refine W.ret ?_
    rw[ybm_ (p:=badC vars) (i:=i) hI hz hq];exact⟨⟨k,v,rfl,hk.at,hv.mono L2⟩,(L.mono L').mono L2⟩
   ·repeat' (with_reducible refine W.next ?_)
    exact⟨by omega,sk,L',upto (P:=fun _ a=>badC vars a=false) hI hz hq⟩
  ·repeat' with_reducible first|refine W.stop ?_|refine W.ret ?_
   rw[ycc_ (p:=badC vars) (i:=i) hI (by omega)];exact⟨rfl,L.mono L'⟩
end
section
open Go
theorem yde_{α:Type}{xs:List α}{i:Nat}{z:α}(h:xs[i]?=some z):xs.drop i=z::xs.drop (i+1):=by
 obtain⟨h1,h2⟩:=List.getElem?_eq_some_iff.1 h;rw[List.drop_eq_getElem_cons h1,h2]
end
section
open Go
def vars(bs:List (Bool×List Int)):List Int:=(bs.map (·.2)).flatten
end
section
open Go
theorem ydh_{σ:Heap}{xs:List Int}{x:AVal}(h:SlV .int σ xs x)(hb:xs.length<=1000000):W (S.z120 x σ) fun r=>Acc .int σ.next r.2 xs r.1/\Hle σ r.2:=by
 obtain⟨y,τ,e,L,hA⟩:=yh8_ h hb;exact⟨_,e,hA,L⟩
end
section
open Go
theorem set_set(τ:Heap)(l:Nat)(a b:AObj):(τ.set l a).set l b=τ.set l b:=by
 simp only[Heap.set,Heap.mk.injEq,true_and]
 funext k
 by_cases h:k=l<;>simp[h]
theorem ygr_{τ:Heap}{l:Nat}{o:AObj}(h:τ.get l=some o):τ.set l o=τ:=by
 cases τ with
 |mk n g=>
  simp only[Heap.set,Heap.mk.injEq,true_and]
  funext k
  by_cases e:k=l
  ·subst e;rw[if_pos rfl];exact h.symm
  ·rw[if_neg e]
theorem y22_(τ:Heap)(l:Nat)(o:AObj):(τ.set l o).get l=some o:=by rw[y1r_,if_pos rfl]
section
variable{R:Type}{τ:Heap}{l off len:Nat}{c:Option Nat}{cs:List AVal}{Q:R->Prop}
theorem W.rd1(hg:τ.get l=some (.cells .rw 1 cs)){i:Int}(h0:0<=i)(h1:i<len){a:Int}(hk:cs[off+i.toNat]?=some (AVal.int .i64 a)){K:Int->Option R}(k:W (K a) Q):W (ixA τ (.sl l off len c) 1 i fun p=>ld τ p (.I .i64) K) Q:=by
 refine W.to ?_ k;simp only[ixA,hg];rw[if_pos ⟨trivial,h0,h1⟩,Nat.mul_one];simp[ld,Heap.cell,hg,hk,asK]
theorem W.wr1(hg:τ.get l=some (.cells .rw 1 cs)){i:Int}(h0:0<=i)(h1:i<len)(hlen:off+i.toNat<cs.length){a:AVal}{K:Heap->Option R}(k:W (K (τ.set l (.cells .rw 1 (cs.set (off+i.toNat) a)))) Q):W (ixA τ (.sl l off len c) 1 i fun p=>stC τ p [a] K) Q:=by
 refine W.to ?_ k;simp only[ixA,hg];rw[if_pos ⟨trivial,h0,h1⟩,Nat.mul_one];simp only[stC,hg,List.length_singleton];rw[if_pos (by omega)]
 congr 4
 rw[List.set_eq_take_append_cons_drop,if_pos hlen];simp
end
theorem yib_{O:FuncId}{n0:Nat}{τ:Heap}{xs:List Int}{y:AVal}(hA:Acc .int n0 τ xs y)(hb:xs.all inB=true)(hl:xs.length<=1000000000) :
  W (y4l_ O y (.fn (.func O) [] []) τ) fun r=>Acc .int n0 r.2 (yf_ xs) y/\∀σ0:Heap,σ0.next<=n0->Hle σ0 τ->Hle σ0 r.2:=by
 unfold y4l_;simp only[if_true];rcases hA with ⟨rfl,rfl⟩|⟨l,cs,rfl,h2,h3,h4,h5,h6⟩
 ·exact W.ret ⟨.inl ⟨rfl,by simp[yf_]⟩,fun σ0 _ L=>L⟩
 ·simp only[]
  by_cases h0:xs.length=0
  ·rw[if_pos h0]
   have:xs=[]:=List.eq_nil_of_length_eq_zero h0;subst this;refine W.ret ⟨.inr ⟨l,cs,by simp[yf_],h2,h3,h4,by simp[yf_],fun i a hi=>by simp[yf_]at hi⟩,fun σ0 _ L=>L⟩
  ·rw[if_neg h0]
   have h4':τ.get l=some (.cells .rw 1 cs):=h4;have h5':xs.length<=cs.length:=by simpa[Vw.int]using h5
   simp only[h4'];rw[if_pos ⟨by omega,by omega⟩];have hc:(cs.drop 0).take xs.length=xs.map (AVal.int .i64):=by
    rw[List.drop_zero];apply List.ext_getElem? fun i=>?_;by_cases hi:i<xs.length
    ·have:=h6 i xs[i] (List.getElem?_eq_getElem hi)
     have this:(cs.drop (i*1)).take 1=[.int .i64 xs[i]]:=this;rw[Nat.mul_one]at this;rw[List.getElem?_take_of_lt hi,List.getElem?_map,List.getElem?_eq_getElem hi,Option.map_some];have h7:((cs.drop i).take 1)[0]?=some (AVal.int .i64 xs[i]):=by rw[this];rfl
     rw[List.getElem?_take_of_lt (by omega),List.getElem?_drop]at h7;simpa using h7
    ·rw[List.getElem?_eq_none (by simp;omega),List.getElem?_eq_none (by simp;omega)]
   rw[hc,yao_];simp only[hb,if_true];have hsl:=y3f_ xs;refine W.ret ⟨.inr ⟨l,_,by rw[hsl],h2,h3,y22_ _ _ _,by first|(simp[Vw.int];done)|(simp[Vw.int];omega),fun i a hi=>?_⟩,fun σ0 hn L=>L.set (by omega) _⟩;show _=_;have hi':=(List.getElem?_eq_some_iff.1 hi).1;simp only[Vw.int,Nat.mul_one,List.take_zero,List.nil_append];rw[List.drop_append_of_le_length (by simp;omega),List.take_append_of_le_length (by simp;omega)];rw[List.drop_eq_getElem_cons (by simpa using hi')];obtain⟨h8,h9⟩:=List.getElem?_eq_some_iff.1 hi;simp[h9]
theorem y46_{xs:List Int}{i:Nat}{a:Int}(h:xs[i]?=some a):(xs.take (i+1)).getLast?=some a:=by
 rw[List.take_add_one,h];simp
theorem y6m_{xs:List Int}{i:Nat}{a:Int}(h:xs[i]?=some a):xs.take (i+1)=xs.take i++[a]:=by rw[List.take_add_one,h];rfl
theorem ydt_{τ:Heap}{l k0 n:Nat}{cs0:List AVal}{xs:List Int}(hn:xs.length=n)(hcl:n<=cs0.length)(hk0:0<k0)(hk1:k0<n)(hnl:n<=1000000000)(hd:xs[k0]?=xs[k0-1]?)(hR:y4_ (xs.take k0)=xs.take k0)
  (hcs:∀(j:Nat) (a:Int),xs[j]?=some a->cs0[j]?=some (AVal.int .i64 a)) (hg:τ.get l=some (.cells .rw 1 cs0)) :
  W (loopW (S.z121.b0 (.sl l 0 n none) (.sl l k0 (n-k0) none)) ((k0:Int),1) τ) fun r=>r.1=((y4_ xs).length:Int)/\∃cs:List AVal,r.2=τ.set l (.cells .rw 1 cs)/\cs.length=cs0.length/\cs.take (y4_ xs).length=(y4_ xs).map (AVal.int .i64):=by
 have hinit:y4_ (xs.take (k0+1))=xs.take k0:=by
  obtain⟨a,ha⟩:∃a,xs[k0]?=some a:=⟨_,List.getElem?_eq_getElem (by omega)⟩;rw[y6m_ ha,y2i_,hR];have:(xs.take k0).getLast?=some a:=by
   have h1:=y46_ (xs:=xs) (i:=k0-1) (a:=a) (by rw[<-hd,ha])
   rwa [show k0-1+1=k0 by omega]at h1
  rw[if_pos this]
 refine W.loop (n-k0-1) (fun i (y:Int×Int) τ'=>∃cs:List AVal,y=(((y4_ (xs.take (k0+1+i))).length:Int),(i:Int)+1)/\τ'=τ.set l (.cells .rw 1 cs)/\cs.length=cs0.length/\(y4_ (xs.take (k0+1+i))).length<=k0+i /\
  cs.take (y4_ (xs.take (k0+1+i))).length=(y4_ (xs.take (k0+1+i))).map (AVal.int .i64)/\∀(j:Nat) (a:Int),k0+i<=j->xs[j]?=some a->cs[j]?=some (AVal.int .i64 a))
  ⟨cs0,?_,(ygr_ hg).symm,rfl,?_,?_,fun j a _ h=>hcs j a h⟩ fun i y τ' hi hI=>?_
 ·rw[Nat.add_zero,hinit];simp;omega
 ·rw[Nat.add_zero,hinit];simp;omega
 ·rw[Nat.add_zero,hinit]
  apply List.ext_getElem? fun j=>?_;by_cases hj:j<k0
  ·have hx:=List.getElem?_eq_getElem (l:=xs) (i:=j) (by omega)
   rw[List.getElem?_take_of_lt (by simp;omega),List.getElem?_map,List.getElem?_take_of_lt hj,hx,Option.map_some];exact hcs j _ hx
  ·rw[List.getElem?_eq_none (by simp;omega),List.getElem?_eq_none (by simp;omega)]
 ·obtain⟨cs,rfl,rfl,hl,hk,ht,hr⟩:=hI
  have sk3:IntKind.i64.wrap ((i:Int)+1+1)=((i+1:Nat):Int)+1:=by rw[wrapS]<;>omega
  unfold S.z121.b0;simp only[lenV]
  (with_reducible refine W.cnd (fun hc=>?_) (fun hc=>?_)<;>(try simp only[qq,Kd.ty]at hc)<;>(try (exfalso;omega)))
  ·obtain⟨a,ha⟩:∃a,xs[k0+1+i]?=some a:=⟨_,List.getElem?_eq_getElem (by omega)⟩
   obtain⟨b,hb⟩:∃b,xs[k0+i]?=some b:=⟨_,List.getElem?_eq_getElem (by omega)⟩;have hpush:y4_ (xs.take (k0+1+(i+1)))=if b=a then y4_ (xs.take (k0+1+i))else y4_ (xs.take (k0+1+i))++[a]:=by
    rw[<-Nat.add_assoc,y6m_ ha,y2i_];have:=y46_ hb;rw[show k0+i+1=k0+1+i by omega]at this;rw[this];simp
   have w:IntKind.i64.wrap ((i:Int)+1-1)=i:=by rw[wrapS]<;>omega
   repeat' (with_reducible refine W.bind ?_)
   refine W.rd1 (y22_ _ _ _) (by omega) (by omega) (a:=a) (by rw[show k0+((i:Int)+1).toNat=k0+1+i by omega];exact hr _ _ (by omega) ha) ?_;rw[w];refine W.rd1 (y22_ _ _ _) (by omega) (by omega) (a:=b) (by rw[show k0+((i:Int)).toNat=k0+i by omega];exact hr _ _ (by omega) hb) ?_;rw[hpush]
   (with_reducible refine W.cnd (fun hq=>?_) (fun hq=>?_)<;>(try simp only[qq,Kd.ty]at hq)<;>(try (exfalso;omega)))
   ·refine W.rd1 (y22_ _ _ _) (by omega) (by omega) (a:=a) (by rw[show k0+((i:Int)+1).toNat=k0+1+i by omega];exact hr _ _ (by omega) ha) ?_
    refine W.wr1 (y22_ _ _ _) (by omega) (by omega) (by omega) ?_;rw[set_set,if_neg (fun e=>hq e.symm)]
    repeat' with_reducible first|refine W.next ?_|refine W.ret ?_
    rw[Nat.zero_add,Int.toNat_natCast];refine⟨by omega,_,?_,rfl,by simp[hl],by simp;omega,?_,fun j c hj hc=>?_⟩
    ·rw[sk3,sk];simp
    ·rw[List.length_append,List.length_singleton,List.map_append,List.take_add_one,List.take_set_of_le (by omega),ht,List.getElem?_set_self (by omega)];rfl
    ·rw[List.getElem?_set_ne (by omega)];exact hr j c (by omega) hc
   ·subst hq
    repeat' with_reducible first|refine W.next ?_|refine W.ret ?_
    rw[if_pos rfl];exact⟨by omega,cs,by rw[sk3],rfl,hl,by omega,ht,fun j c hj hc=>hr j c (by omega) hc⟩
  ·repeat' (with_reducible refine W.stop ?_)
   have:xs.take (k0+1+i)=xs:=List.take_of_length_le (by omega);rw[this]at ht;rw[this];exact⟨rfl,cs,rfl,hl,ht⟩
def adj:List Int->Bool
 |x::y::t=>decide (x.natAbs≠y.natAbs)&&adj (y::t)
 |_=>true
def saysN(c:List Int):Bool:=adj (normL c)
def Fresh(n0:Nat)(τ:Heap)(xs:List Int)(y:AVal):Prop:=SlV .int τ xs y/\∀l off len c,y=.sl l off len c->n0<=l
def y2v_(n0:Nat)(τ:Heap)(xs:List Int)(y:AVal):Prop:=(y=.nils/\xs=[])\/∃l off c cs,y=.sl l off xs.length c/\n0<=l/\l<τ.next/\τ.get l=some (.cells .rw Vw.int.sz cs) /\
 (∀k,c=some k->(off+k)*Vw.int.sz<=cs.length)/\(off+xs.length)*Vw.int.sz<=cs.length/\∀i a,xs[i]?=some a->Vw.int.rel τ a ((cs.drop ((off+i)*Vw.int.sz)).take Vw.int.sz)
theorem y2v_.fresh{n0:Nat}{τ:Heap}{xs:List Int}{y:AVal}(h:y2v_ n0 τ xs y):Fresh n0 τ xs y:=by
 rcases h with ⟨rfl,rfl⟩|⟨l,off,c,cs,rfl,h1,h2,h3,_,h4,h5⟩
 ·exact⟨.inl ⟨rfl,rfl⟩,fun l off len c e=>by cases e⟩
 ·exact⟨.inr ⟨l,off,c,.rw,cs,rfl,h2,h3,h4,h5⟩,fun l' off' len c' e=>by cases e;exact h1⟩
theorem Acc.freshO{n0:Nat}{τ:Heap}{xs:List Int}{y:AVal}(h:Acc .int n0 τ xs y):y2v_ n0 τ xs y:=by
 rcases h with h|⟨l,cs,rfl,h2,h3,h4,h5,h6⟩
 ·exact .inl h
 ·exact .inr ⟨l,0,none,cs,rfl,h2,h3,h4,fun k e=>(by cases e),by simpa using h5,fun i a hi=>by rw[Nat.zero_add];exact h6 i a hi⟩
theorem ygb_{n0:Nat}{τ:Heap}{xs:List Int}{y:AVal}(hA:Acc .int n0 τ xs y)(hl:xs.length<=1000000000) :
  W (S.z121 y τ) fun r=>y2v_ n0 r.2 (y4_ xs) r.1/\∀σ0:Heap,σ0.next<=n0->Hle σ0 τ->Hle σ0 r.2:=by
 unfold S.z121;rw[hA.len]
 (with_reducible refine W.cnd (fun hc=>?_) (fun hc=>?_)<;>(try simp only[qq,Kd.ty]at hc)<;>(try (exfalso;omega)))
 ·repeat' with_reducible refine W.ret ?_
  have:y4_ xs=xs:=by
   match xs,hc with
   |[],_=>rfl
   |[x],_=>rfl
   |x::y::t,h=>simp at h;omega
  rw[this];exact⟨hA.freshO,fun σ0 _ L=>L⟩
 ·rcases hA with ⟨rfl,rfl⟩|⟨l,cs,rfl,h2,h3,h4,h5,h6⟩
  ·simp at hc
  ·have h4':τ.get l=some (.cells .rw 1 cs):=h4
   have h5':xs.length<=cs.length:=by simpa[Vw.int]using h5
   have hcs:∀(j:Nat) (a:Int),xs[j]?=some a->cs[j]?=some (AVal.int .i64 a):=fun j a ha=>by
    have:=h6 j a ha;have this:(cs.drop (j*1)).take 1=[AVal.int .i64 a]:=this;have h7:((cs.drop (j*1)).take 1)[0]?=some (AVal.int .i64 a):=by rw[this];rfl
    rw[List.getElem?_take_of_lt (by omega),List.getElem?_drop]at h7;simpa using h7
   have hlt:∀j,j<xs.length->∃a,xs[j]?=some a:=fun j hj=>⟨_,List.getElem?_eq_getElem hj⟩
   repeat' (with_reducible refine W.bind ?_)
   refine W.loop (xs.length-1) (fun i y τ'=>y=(i:Int)+1/\τ=τ'/\y4_ (xs.take (i+1))=xs.take (i+1)) ⟨rfl,rfl,by
    match xs,hc with
    |x::t,_=>rfl⟩ fun i y τ' hi hI=>?_
   obtain⟨rfl,rfl,hR⟩:=hI;have w:IntKind.i64.wrap ((i:Int)+1-1)=i:=by rw[wrapS]<;>omega
   have sk3:IntKind.i64.wrap ((i:Int)+1+1)=((i+1:Nat):Int)+1:=by rw[wrapS]<;>omega
   unfold S.z121.b1;simp only[lenV]
   (with_reducible refine W.cnd (fun hq=>?_) (fun hq=>?_)<;>(try simp only[qq,Kd.ty]at hq)<;>(try (exfalso;omega)))
   ·obtain⟨a,ha⟩:=hlt (i+1) (by omega)
    obtain⟨b,hb⟩:=hlt i (by omega);refine W.rd1 h4' (by omega) (by omega) (a:=a) (by rw[show 0+((i:Int)+1).toNat=i+1 by omega];exact hcs _ _ ha) ?_;rw[w];refine W.rd1 h4' (by omega) (by omega) (a:=b) (by rw[show 0+(i:Int).toNat=i by omega];exact hcs _ _ hb) ?_
    (with_reducible refine W.cnd (fun he=>?_) (fun he=>?_)<;>(try simp only[qq,Kd.ty]at he)<;>(try (exfalso;omega)))
    ·subst he
     have hsl:∀{R:Type} (K:AVal->Option R),slS τ 1 (.sl l 0 xs.length none) ((i:Int)+1) none none K=K (.sl l (i+1) (xs.length-(i+1)) none):=fun K=>by
      simp only[slS,h4'];rw[if_pos ⟨trivial,by omega,by simp;omega,by simp,by simp,by simp⟩];have:((i:Int)+1).toNat=i+1:=by omega
      simp[this,y19_]
     refine W.to (hsl _) ?_
     repeat' (with_reducible refine W.bind ?_)
     have hin:=ydt_ (τ:=τ) (l:=l) (k0:=i+1) rfl h5' (by omega) (by omega) hl (by rw[ha];simpa using hb.symm) hR hcs h4';refine W.mono hin fun r hr=>?_;obtain⟨k,τ2⟩:=r;obtain⟨e,cs2,e2,hl2,ht⟩:=hr;dsimp only at e e2⊢;subst e e2;have hlen:=y4f_ xs;have hsl2:∀{R:Type} (K:AVal->Option R),slS (τ.set l (.cells .rw 1 cs2)) 1 (.sl l 0 xs.length none) ((y4_ xs).length:Int) none none K=K (.sl l (y4_ xs).length (xs.length-(y4_ xs).length) none):=fun K=>by
      simp only[slS,y22_];rw[if_pos ⟨trivial,by omega,by simp;omega,by simp,by simp,by simp⟩];simp[y19_]
     refine W.to (hsl2 _) ?_;have hclr:∃cs3:List AVal,cs3.length=cs2.length/\cs3.take (y4_ xs).length=cs2.take (y4_ xs).length/\∀{R:Type} (K:Heap->Option R),y1s_ (τ.set l (.cells .rw 1 cs2)) 1 [AVal.int .i64 0] (.sl l (y4_ xs).length (xs.length-(y4_ xs).length) none) K=K (τ.set l (.cells .rw 1 cs3)):=by
      have hrl:∀n:Nat,(rep n [AVal.int .i64 0]).length=n:=fun n=>by
       induction n with
       |zero=>rfl
       |succ n ih=>simp[rep,ih]
      by_cases h0:xs.length-(y4_ xs).length=0
      ·exact⟨cs2,rfl,rfl,fun K=>by simp only[y1s_,if_pos h0]⟩
      ·refine⟨cs2.take (y4_ xs).length++rep (xs.length-(y4_ xs).length) [AVal.int .i64 0]++cs2.drop ((y4_ xs).length+(xs.length-(y4_ xs).length)),?_,?_,fun K=>?_⟩
       ·simp[hrl];omega
       ·rw[List.append_assoc,List.take_append_of_le_length (by simp;omega),List.take_take,Nat.min_self]
       ·simp only[y1s_,if_neg h0,y22_,if_true,Nat.mul_one,stC,hrl]
        rw[if_pos (by omega),set_set]
     obtain⟨cs3,hl3,ht3,e3⟩:=hclr;refine W.to (e3 _) ?_;have hsl4:∀{R:Type} (K:AVal->Option R),slS (τ.set l (.cells .rw 1 cs3)) 1 (.sl l 0 xs.length none) 0 (some ((y4_ xs).length:Int)) none K=K (.sl l 0 (y4_ xs).length none):=fun K=>by
      simp only[slS,y22_];rw[if_pos ⟨trivial,by omega,by simp,by simp;omega,by simp,by simp⟩];simp[y19_]
     refine W.to (hsl4 _) ?_
     repeat' with_reducible first|refine W.stop ?_|refine W.ret ?_
     refine⟨.inr ⟨l,0,none,cs3,rfl,h2,h3,y22_ _ _ _,fun k e=>(by cases e),by simp[Vw.int];omega,fun i a hi=>?_⟩,fun σ0 hn L=>L.set (by omega) _⟩;show _=_;have hi':=(List.getElem?_eq_some_iff.1 hi).1;rw[ht]at ht3;have h7:(cs3.take (y4_ xs).length)[i]?=some (AVal.int .i64 a):=by rw[ht3,List.getElem?_map,hi];rfl
     rw[List.getElem?_take_of_lt hi']at h7;simp only[Vw.int,Nat.mul_one,Nat.zero_add];obtain⟨h8,h9⟩:=List.getElem?_eq_some_iff.1 h7;rw[List.drop_eq_getElem_cons h8,h9];rfl
    ·repeat' (with_reducible refine W.next ?_)
     refine⟨by omega,sk3,rfl,?_⟩;rw[y6m_ ha,y2i_,y46_ hb,if_neg (fun e=>he (Option.some.inj e).symm),hR]
   ·repeat' with_reducible first|refine W.stop ?_|refine W.ret ?_
    have:xs.take (i+1)=xs:=List.take_of_length_le (by omega);rw[this]at hR;rw[hR];have hA:Acc .int n0 τ xs (.sl l 0 xs.length none):=.inr ⟨l,cs,rfl,h2,h3,h4,h5,h6⟩;exact⟨hA.freshO,fun σ0 _ L=>L⟩
theorem yh1_{xs:List Int}{i:Nat}{a b:Int}(ha:xs[i]?=some a)(hb:xs[i+1]?=some b):adj (xs.drop i)=(decide (a.natAbs≠b.natAbs)&&adj (xs.drop (i+1))):=by
 rw[yde_ ha,yde_ hb];rfl
theorem yi6_{σ:Heap}{c:List Int}{x:AVal}(hx:SlV .int σ c x)(hb:c.all inB=true)(hl:c.length<=1000000):W (S.z54 x σ) fun r=>r.1.2=saysN c/\Hle σ r.2/\y2v_ σ.next r.2 (normL c) r.1.1:=by
 unfold S.z54;refine W.call (ydh_ hx hl) fun r hr=>?_;obtain⟨y,τ⟩:=r;obtain⟨hy,L⟩:=hr;dsimp only at hy L⊢;refine W.call (yib_ hy hb (by omega)) fun r hr=>?_;obtain⟨u,τ2⟩:=r;obtain⟨hy2,F2⟩:=hr;dsimp only at hy2 F2⊢;replace L:=F2 σ (Nat.le_refl _) L;have hsl:=y3f_ c;refine W.call (ygb_ hy2 (by omega)) fun r hr=>?_;obtain⟨z,τ3⟩:=r;obtain⟨hz,F3⟩:=hr;dsimp only at hz F3⊢;replace L:=F3 σ (Nat.le_refl _) L;have hz:y2v_ σ.next τ3 (normL c) z:=hz;have hnl:=yb1_ c;have hclip:W (S.z117 z τ3) fun w=>y2v_ σ.next τ3 (normL c) w:=by
  unfold S.z117
  skip
  rcases hz with ⟨rfl,e⟩|⟨l,off,cc,cs,rfl,k1,k2,k3,k6,k4,k5⟩
  ·rw[e]
   exact W.to (by simp[slS,lenV]) (W.ret (.inl ⟨rfl,rfl⟩))
  ·have hs:∀{R:Type} (K:AVal->Option R),slS τ3 1 (.sl l off (normL c).length cc) 0 (some ((normL c).length:Int)) (some ((normL c).length:Int)) K=K (.sl l off (normL c).length (some (normL c).length)):=fun K=>by
    have k3:τ3.get l=some (.cells .rw 1 cs):=k3;simp only[slS,k3];rw[if_pos ⟨trivial,by omega,by simp,by simp,by simp,by simp⟩];simp[y19_]
   exact W.to (hs _) (W.ret (.inr ⟨l,off,_,cs,rfl,k1,k2,k3,fun k e=>(by cases e;exact k4),k4,k5⟩))
 refine W.call hclip fun w hwO=>?_;obtain⟨hw,hwf⟩:=hwO.fresh
 repeat' (with_reducible refine W.bind ?_)
 unfold saysN;refine W.loopP ((normL c).length-1) (fun i y=>y=(i:Int)+1/\adj (normL c)=adj ((normL c).drop i)) ⟨rfl,by simp⟩ fun i y hi hI=>?_;obtain⟨rfl,hI⟩:=hI;have wi:IntKind.i64.wrap ((i:Int)+1-1)=i:=by rw[wrapS]<;>omega
 have sk3:IntKind.i64.wrap ((i:Int)+1+1)=((i+1:Nat):Int)+1:=by rw[wrapS]<;>omega
 unfold S.z54.b0
 repeat' (with_reducible refine W.len (by assumption) ?_)
 have hin:∀v∈normL c,-1152921504606846976<=v/\v<=9223372036854775807:=fun v hv=>by
  rw[yd_]at hv;have:=List.all_eq_true.1 hb v hv;simp[inB]at this;omega
 (with_reducible refine W.cnd (fun hc=>?_) (fun hc=>?_)<;>(try simp only[qq,Kd.ty]at hc)<;>(try (exfalso;omega)))
 ·obtain⟨a,ha⟩:∃a,(normL c)[i]?=some a:=⟨_,List.getElem?_eq_getElem (by omega)⟩
  obtain⟨b,hb'⟩:∃b,(normL c)[i+1]?=some b:=⟨_,List.getElem?_eq_getElem (by omega)⟩;rw[yh1_ ha hb']at hI;refine W.ixI hw (a:=b) (by rw[show((i:Int)+1).toNat=i+1 by omega];exact hb') (by omega) ?_;refine W.eqn (y9b_ (hin b (List.mem_of_getElem? hb'))) ?_;rw[wi];refine W.ixIc hw ha ?_;refine W.eqn (y9b_ (hin a (List.mem_of_getElem? ha))) ?_
  (with_reducible refine W.cnd (fun he=>?_) (fun he=>?_)<;>(try simp only[qq,Kd.ty]at he)<;>(try (exfalso;omega)))
  ·repeat' with_reducible first|refine W.stopP ?_|refine W.ret ?_
   refine⟨?_,L,hwO⟩;rw[hI];have:a.natAbs=b.natAbs:=by omega
   simp[this]
  ·repeat' (with_reducible refine W.nextP ?_)
   refine⟨by omega,sk3,?_⟩;rw[hI];have:a.natAbs≠b.natAbs:=by omega
   simp[this]
 ·repeat' with_reducible first|refine W.stopP ?_|refine W.ret ?_
  refine⟨?_,L,hwO⟩;rw[hI]
  match h:(normL c).drop i with
  |[]=>rfl
  |[x]=>rfl
  |x::y::t=>
   have:=congrArg List.length h;simp at this;omega
end
section
open Go
inductive Der(C:List (List Int))(s:List Int):Int->Prop where
 |start {l:Int}:l∈s->Der C s l
 |unit {c:List Int} {l:Int}:c∈C->l∈c->(∀k∈c,k≠l->Der C s (-k))->Der C s l
def Conf(C:List (List Int))(s:List Int):Prop:=(∃l,Der C s l/\Der C s (-l))\/∃c∈C,∀k∈c,Der C s (-k)
theorem Der.mono{C D:List (List Int)}{s t:List Int}(hC:∀c∈C,∃d∈D,∀v,v∈d↔v∈c)(hs:∀l∈s,l∈t){l:Int}(h:Der C s l):Der D t l:=by
 induction h with
 |start h=>exact .start (hs _ h)
 |unit hc hl _ ih=>
  obtain⟨d,hd,e⟩:=hC _ hc;exact .unit hd ((e _).2 hl) fun k hk hne=>ih k ((e _).1 hk) hne
theorem Conf.mono{C D:List (List Int)}{s t:List Int}(hC:∀c∈C,∃d∈D,∀v,v∈d↔v∈c)(hs:∀l∈s,l∈t)(h:Conf C s):Conf D t:=by
 rcases h with ⟨l,h1,h2⟩|⟨c,hc,h⟩
 ·exact .inl ⟨l,h1.mono hC hs,h2.mono hC hs⟩
 ·obtain⟨d,hd,e⟩:=hC _ hc
  exact .inr ⟨d,hd,fun k hk=>(h k ((e _).1 hk)).mono hC hs⟩
def val(vs:List Int)(l:Int):Int:=if l=0\/vs.length<=l.natAbs then 0 else if l<0/\vs.getD l.natAbs 0≠0 then 3-vs.getD l.natAbs 0 else vs.getD l.natAbs 0
def Vok(vs:List Int):Prop:=∀x∈vs,x=0\/x=1\/x=2
def setV(vs:List Int)(l:Int):List Int:=vs.set l.natAbs (if 0<l then 1 else 2)
theorem y6x_{vs:List Int}(h:Vok vs)(i:Nat):vs.getD i 0=0\/vs.getD i 0=1\/vs.getD i 0=2:=by
 rw[List.getD_eq_getElem?_getD];cases hx:vs[i]? with
 |none=>left;rfl
 |some x=>exact h x (List.mem_of_getElem? hx)
theorem y4c_{vs:List Int}(h:Vok vs)(l:Int):val vs l=0\/val vs l=1\/val vs l=2:=by
 unfold val;have:=y6x_ h l.natAbs
 split
 ·left;rfl
 ·split<;>omega
theorem y75_{vs:List Int}(h:Vok vs)(l:Int):val vs (-l)=if val vs l=0 then 0 else 3-val vs l:=by
 unfold val;have:=y6x_ h l.natAbs;rw[Int.natAbs_neg];by_cases h0:l=0\/vs.length<=l.natAbs
 ·rw[if_pos (by omega),if_pos h0];rfl
 ·rw[if_neg (by omega),if_neg h0]
  generalize vs.getD l.natAbs 0=a at *
  repeat' split
  all_goals omega
theorem Vok.set{vs:List Int}(h:Vok vs)(l:Int):Vok (setV vs l):=fun x hx=>by
 unfold setV at hx;rcases List.mem_or_eq_of_mem_set hx with hx|hx
 ·exact h x hx
 ·split at hx<;>omega
theorem ybu_(vs:List Int)(l:Int):(setV vs l).length=vs.length:=by simp[setV]
theorem yix_{vs:List Int}{l:Int}(h0:l≠0)(h1:l.natAbs<vs.length)(k:Int):val (setV vs l) k=if k=l then 1 else if k = -l then 2 else val vs k:=by
 unfold val;rw[ybu_];have hg:∀j:Nat,(setV vs l).getD j 0=if j=l.natAbs then(if 0<l then 1 else 2)else vs.getD j 0:=fun j=>by
  unfold setV;rw[List.getD_eq_getElem?_getD,List.getElem?_set];by_cases hj:l.natAbs=j
  ·subst hj;simp[h1]
  ·rw[if_neg hj,if_neg (fun e=>hj e.symm),List.getD_eq_getElem?_getD]
 rw[hg];by_cases hk:k=l
 ·subst hk
  rw[if_pos rfl,if_neg (by omega),if_pos rfl]
  split<;>split<;>omega
 ·rw[if_neg hk]
  by_cases hk2:k = -l
  ·subst hk2
   rw[if_pos rfl,if_neg (by omega),Int.natAbs_neg,if_pos rfl]
   split<;>split<;>omega
  ·rw[if_neg hk2,if_neg (c:=k.natAbs=l.natAbs) (by omega)]
def Vw.i8:Vw Int:=⟨1,fun _ a us=>us=[.int .i8 a],Nat.one_pos,fun h=>by rw[h];rfl,fun _ h=>h⟩
theorem Vw.i8_flat:Vw.i8.Flat:=fun _ _ _ _ h=>h
def AsgV(σ:Heap)(p:AVal)(vs:List Int):Prop:=∃l v,p=.ptr l 0/\Loc σ l [v]/\SlV .i8 σ vs v
theorem i8w{x:Int}(h:x=0\/x=1\/x=2):IntKind.i64.wrap x=x:=by rw[wrapS]<;>omega
theorem y7r_{σ:Heap}{p:AVal}{vs:List Int}(h:AsgV σ p vs)(hv:Vok vs)(hl:0<vs.length)(hb:vs.length<=1000000){l:Int}(hin:inB l=true):S.z3 p l σ=some (val vs l):=by
 obtain⟨r,e,rfl⟩:W (S.z3 p l σ) fun r=>r=val vs l:=by
  obtain⟨la,v,rfl,h1,h2⟩:=h;simp only[inB,Bool.and_eq_true,decide_eq_true_eq]at hin;have w:IntKind.i64.wrap ((vs.length:Int)-1)=(vs.length:Int)-1:=by rw[wrapS]<;>omega
  unfold S.z3 val
  repeat' with_reducible first|refine W.bind ?_|refine W.asV ?_|refine W.fldp ?_|refine W.len (by assumption) ?_|refine W.e0 ?_|refine W.nck ?_
  rw[w];refine W.to (y1o_ (by omega) (by omega)) ?_
  repeat' with_reducible refine W.ret ?_
  by_cases hi:isL l ((vs.length:Int)-1)=true
  ·have hi':=ym_.1 hi
   refine W.condF (by simp[hi]) ?_;rw[if_neg (by omega)]
   repeat' with_reducible first|refine W.bind ?_|refine W.asV ?_|refine W.fldp ?_|refine W.e0 ?_|refine W.nck ?_
   refine W.to (y9b_ ⟨by omega,by omega⟩) ?_
   repeat' with_reducible refine W.ret ?_
   obtain⟨a,ha⟩:∃a,vs[l.natAbs]?=some a:=⟨_,List.getElem?_eq_getElem (by omega)⟩;have hg:vs.getD l.natAbs 0=a:=by rw[List.getD_eq_getElem?_getD,ha];rfl
   have hok:=y6x_ hv l.natAbs;rw[hg]at hok⊢;refine W.ixkc h2 ha fun q us hq hr=>?_;have hr:us=[.int .i8 a]:=hr;subst hr
   repeat' with_reducible first|refine W.bind ?_|refine W.asI ?_|refine W.ld0 (by assumption) (by with_unfolding_all rfl) ?_
   rw[i8w hok]
   (with_reducible refine W.cnd (fun hc=>?_) (fun hc=>?_)<;>(try simp only[qq,Kd.ty]at hc)<;>(try (exfalso;omega)))
   ·repeat' with_reducible first|refine W.ret ?_|refine W.bind ?_
    by_cases h0:a=0
    ·subst h0
     refine W.condF (by rfl) ?_
     repeat' with_reducible refine W.ret ?_
     simp
    ·refine W.condT (by simpa using h0) ?_
     repeat' with_reducible refine W.ret ?_
     rw[if_pos ⟨by omega,h0⟩,wrapS]<;>omega
   ·repeat' with_reducible first|refine W.ret ?_|refine W.bind ?_
    refine W.condF rfl ?_
    repeat' with_reducible refine W.ret ?_
    rw[if_neg (by omega)]
  ·refine W.condT (by simpa using hi) ?_
   repeat' with_reducible refine W.ret ?_
   have:¬(l≠0/\-((vs.length:Int)-1)<=l/\l<=(vs.length:Int)-1):=fun e=>hi (ym_.2 e);rw[if_pos (by omega)]
 exact e
end
section
open Go
abbrev i8s(vs:List Int):List AVal:=vs.map (AVal.int .i8)
structure AsgR(σ:Heap)(la lv:Nat)(vs:List Int):Prop where
 loc:Loc σ la [.sl lv 0 vs.length none]
 get:σ.get lv=some (.cells .rw 1 (i8s vs))
 lt:lv<σ.next
 ne:la≠lv
theorem yb6_{σ:Heap}{v:Int}(h0:0<=v)(h1:v<=4000):S.z5 v σ=some v:=by
 unfold S.z5;rw[if_neg (c:=0>v) (by omega),if_neg (by omega)]
end
section
open Go
theorem W.loopI{X Y:Type}{f:X->Heap->Option ((X⊕Y)×Heap)}{Q:Y×Heap->Prop}(Inv:Nat->X->Heap->Prop){m:Nat}{x:X}{σ:Heap}(h0:Inv m x σ)
  (step:∀m x σ,Inv m x σ->W (f x σ) (LQ (fun x' σ'=>∃m',m'<m/\Inv m' x' σ') Q)):W (loopW f x σ) Q:=by
 induction m using Nat.strongRecOn generalizing x σ with
 | ind m ih=>
  obtain⟨⟨r,τ⟩,e,hr⟩:=step m x σ h0;cases r with
  |inl x'=>
   obtain⟨m',hm,h'⟩:=hr;obtain⟨z,h3,h4⟩:=ih m' hm h';exact⟨z,y8h_ e h3,h4⟩
  |inr y=>exact⟨_,y5r_ e,hr⟩
abbrev Tg:=Nat->Nat
abbrev Tz:Tg:=fun _=>0
def Tg.upd(T:Tg)(l t:Nat):Tg:=fun k=>if k=l then t else T k
def Heap.at(σ:Heap)(T:Tg)(i:Nat):Heap:=⟨σ.next,fun k=>if T k=i then σ.get k else none⟩
structure Tn(σ:Heap)(T:Tg):Prop where
 z:∀k,σ.next<=k->T k=0
section
variable{σ τ υ:Heap}{T T' T2:Tg}{i j k l t:Nat}{o:AObj}{I J:Nat->Bool}{cs:List AVal}
theorem ys_:(σ.at T i).get k=some o↔T k=i/\σ.get k=some o:=by
 simp only[Heap.at];split<;>simp[*]
theorem at_of(h1:T k=i)(h2:σ.get k=some o):(σ.at T i).get k=some o:=ys_.2 ⟨h1,h2⟩
theorem at_le:Hle (σ.at T i) σ:=⟨Nat.le_refl _,fun k o _ h=>(ys_.1 h).2⟩
theorem at_tz:σ.at Tz 0=σ:=by simp[Heap.at]
theorem Hle.ats(L:Hle σ τ)(T:Tg)(i:Nat):Hle (σ.at T i) (τ.at T i):=⟨L.next,fun k o hk h=>at_of (ys_.1 h).1 (L.get k o hk (ys_.1 h).2)⟩
theorem Tn.mono(h:Tn σ T)(L:Hle σ τ):Tn τ T:=⟨fun k hk=>h.z k (Nat.le_trans L.next hk)⟩
theorem Tn.tz:Tn σ Tz:=⟨fun _ _=>rfl⟩
theorem y14_:T.upd l t l=t:=if_pos rfl
theorem y1k_(h:k≠l):T.upd l t k=T k:=if_neg h
structure Hop(I:Nat->Bool)(σ:Heap)(T:Tg)(τ:Heap)(T':Tg):Prop where
 next:σ.next<=τ.next
 tn:Tn τ T'
 tag:∀k,k<σ.next->I (T k)=false->T' k=T k
 get:∀k o,k<σ.next->I (T k)=false->σ.get k=some o->τ.get k=some o
abbrev only(t:Nat):Nat->Bool:=fun j=>j==t
theorem Hop.le(h:Hop I σ T τ T')(hj:I j=false):Hle (σ.at T j) (τ.at T' j):=⟨h.next,fun k o hk hg=>by
 obtain⟨rfl,h2⟩:=ys_.1 hg;exact at_of (h.tag k hk hj) (h.get k o hk hj h2)⟩
theorem Hop.refl(hn:Tn σ T):Hop I σ T σ T:=⟨Nat.le_refl _,hn,fun _ _ _=>rfl,fun _ _ _ _ h=>h⟩
theorem Hop.trans(h:Hop I σ T τ T')(k:Hop I τ T' υ T2):Hop I σ T υ T2:=⟨Nat.le_trans h.next k.next,k.tn,fun j hj hI=>by
  have e:=h.tag j hj hI;rw[k.tag j (Nat.lt_of_lt_of_le hj h.next) (by rw[e];exact hI),e],fun j o hj hI hg=>by
  have e:=h.tag j hj hI;exact k.get j o (Nat.lt_of_lt_of_le hj h.next) (by rw[e];exact hI) (h.get j o hj hI hg)⟩
theorem Hop.sub(h:Hop I σ T τ T')(k:∀i,I i=true->J i=true):Hop J σ T τ T':=by
 have key:∀i,J i=false->I i=false:=fun i hi=>by
  cases e:I i
  ·rfl
  ·rw[k i e]at hi;cases hi
 exact⟨h.next,h.tn,fun j hj hJ=>h.tag j hj (key _ hJ),fun j o hj hJ=>h.get j o hj (key _ hJ)⟩
theorem Hop.of(hn:Tn σ T)(L:Hle σ τ):Hop I σ T τ T:=⟨L.next,hn.mono L,fun _ _ _=>rfl,fun k o hk _ h=>L.get k o hk h⟩
theorem y2p_(hn:Tn σ T)(hl:T l=t):Hop (only t) σ T (σ.set l o) T:=⟨Nat.le_refl _,⟨hn.z⟩,fun _ _ _=>rfl,fun k x _ hI hg=>by
 rw[y1r_,if_neg (fun e=>by subst e;simp[only,hl]at hI)];exact hg⟩
theorem ygw_(hn:Tn σ T)(hl:T l=t):Hop (only t) σ T (σ.kill l) T:=⟨Nat.le_refl _,⟨hn.z⟩,fun _ _ _=>rfl,fun k x _ hI hg=>by
 rw[y6g_,if_neg (fun e=>by subst e;simp[only,hl]at hI)];exact hg⟩
theorem y28_(hn:Tn σ T):Hop (only t) σ T (σ.new o) (T.upd σ.next t):=⟨Nat.le_succ _,⟨fun k hk=>by
  have hk:σ.next+1<=k:=hk;rw[y1k_ (by omega)];exact hn.z k (by omega)⟩,fun k hk _=>y1k_ (by omega),fun k x hk _ hg=>by rw[yi_,if_neg (by omega)];exact hg⟩
end
theorem y5d_(τ:Heap)(l:Nat)(o:AObj):(τ.set l o).get l=some o:=by rw[y1r_,if_pos rfl]
theorem win{cs ds:List AVal}{a b n:Nat}(h:∀q,q<n->cs[a+q]?=ds[b+q]?):(cs.drop a).take n=(ds.drop b).take n:=by
 apply List.ext_getElem? fun q=>?_;by_cases hq:q<n
 ·rw[List.getElem?_take_of_lt hq,List.getElem?_take_of_lt hq,List.getElem?_drop,List.getElem?_drop];exact h q hq
 ·rw[List.getElem?_eq_none (by simp;omega),List.getElem?_eq_none (by simp;omega)]
theorem y2z_{i n s:Nat}(h:i<n):i*s+s<=n*s:=by rw[<-Nat.succ_mul];exact Nat.mul_le_mul_right _ h
section
variable{α β:Type}{v:Vw α}{σ τ:Heap}{T T':Tg}{t i:Nat}{xs ys:List α}{x y:AVal}{a:α}
def Own(v:Vw α)(σ:Heap)(xs:List α)(x:AVal):Prop:=(x=.nils/\xs=[])\/∃l off c cs,x=.sl l off xs.length c/\l<σ.next/\σ.get l=some (.cells .rw v.sz cs) /\
 (∀k,c=some k->(off+k)*v.sz<=cs.length)/\(off+xs.length)*v.sz<=cs.length/\∀i a,xs[i]?=some a->v.rel σ a ((cs.drop ((off+i)*v.sz)).take v.sz)
theorem Own.sl(h:Own v σ xs x):SlV v σ xs x:=by
 rcases h with h|⟨l,off,c,cs,h1,h2,h3,_,h4,h5⟩
 ·exact .inl h
 ·exact .inr ⟨l,off,c,.rw,cs,h1,h2,h3,h4,h5⟩
theorem Own.mono(h:Own v σ xs x)(L:Hle σ τ):Own v τ xs x:=by
 rcases h with h|⟨l,off,c,cs,h1,h2,h3,h6,h4,h5⟩
 ·exact .inl h
 ·exact .inr ⟨l,off,c,cs,h1,Nat.lt_of_lt_of_le h2 L.next,L.get _ _ h2 h3,h6,h4,fun i a ha=>v.mono L (h5 i a ha)⟩
theorem Own.slT(h:Own v (σ.at T t) xs x):SlV v σ xs x:=h.sl.mono at_le
theorem SlV.up(h:SlV v (σ.at T t) xs x):SlV v σ xs x:=h.mono at_le
theorem Own.nil:Own v σ [] .nils:=.inl ⟨rfl,rfl⟩
theorem Own.app(hf:v.Flat)(h:Own v (σ.at T t) xs x)(hn:Tn σ T){ds:List AVal}(hd:ds.length=ys.length*v.sz)(hr:∀i a,ys[i]?=some a->v.rel σ a ((ds.drop (i*v.sz)).take v.sz)){bytes:Nat}
  (hb:(xs.length+ys.length)*bytes<=70368744177664) (hb':xs.length+ys.length<=70368744177664) :
  ∃x' τ T',(∀{R:Type} (K:AVal->Heap->Option R),appC σ v.sz bytes x ds ys.length K=K x' τ)/\Own v (τ.at T' t) (xs++ys) x'/\Hop (only t) σ T τ T':=by
 by_cases h0:ys.length=0
 ·have:ys=[]:=List.eq_nil_of_length_eq_zero h0
  subst this;rw[List.append_nil];refine⟨x,σ,T,fun K=>?_,h,Hop.refl hn⟩;rcases h with ⟨rfl,rfl⟩|⟨l,off,c,cs,rfl,h2,h3,h6,h4,h5⟩
  ·rfl
  ·simp only[appC,(ys_.1 h3).2]
   rw[if_pos ⟨trivial,v.pos,h4⟩,if_pos (by rfl)]
 have hfresh:∀(σ':Heap) (hn':Tn σ' T) (es:List AVal),es.length=xs.length*v.sz->(∀i a,xs[i]?=some a->v.rel σ a ((es.drop (i*v.sz)).take v.sz)) ->
   Own v ((σ'.new (.cells .rw v.sz (es++ds))).at (T.upd σ'.next t) t) (xs++ys) (.sl σ'.next 0 (xs.length+ys.length) none):=fun σ' hn' es he hes=>by
  refine .inr ⟨σ'.next,0,none,es++ds,by simp,Nat.lt_succ_self _,at_of y14_ (by rw[yi_,if_pos rfl]),(fun k e=>by cases e),by simp[he,hd,Nat.add_mul],fun i a hi=>?_⟩;rw[Nat.zero_add];by_cases hlt:i<xs.length
  ·rw[List.getElem?_append_left hlt]at hi
   have:=y2z_ (s:=v.sz) hlt;refine hf σ _ _ _ ?_;rw[win (ds:=es) (b:=i*v.sz) fun q hq=>List.getElem?_append_left (by omega)];exact hes i a hi
  ·rw[List.getElem?_append_right (by omega)]at hi
   refine hf σ _ _ _ ?_;have e:i*v.sz=xs.length*v.sz+(i-xs.length)*v.sz:=by rw[<-Nat.add_mul];congr 1;omega
   rw[win (ds:=ds) (b:=(i-xs.length)*v.sz) fun q hq=>by rw[List.getElem?_append_right (by omega)];congr 1;omega];exact hr _ a hi
 rcases h with ⟨rfl,rfl⟩|⟨l,off,c,cs,rfl,h2,h3,h6,h4,h5⟩
 ·simp only[List.length_nil,Nat.zero_add]at hb hb'
  have:=hfresh σ hn [] (by simp) (fun i a hi=>by simp at hi);simp only[List.nil_append,List.length_nil,Nat.zero_add]at this;exact⟨_,_,_,fun K=>by simp only[appC];rw[if_neg h0,if_pos ⟨hb,hb'⟩];rfl,this,y28_ hn⟩
 obtain⟨hTl,hg⟩:=ys_.1 h3;have hroom:(off+xs.length+ys.length)*v.sz<=cs.length->Own v ((σ.set l (.cells .rw v.sz (cs.take ((off+xs.length)*v.sz)++ds++cs.drop ((off+xs.length+ys.length)*v.sz)))).at T t) (xs++ys) (.sl l off (xs.length+ys.length) c):=fun hroom=>by
  have hA:(off+xs.length+ys.length)*v.sz=(off+xs.length)*v.sz+ys.length*v.sz:=Nat.add_mul ..;have hlen:(cs.take ((off+xs.length)*v.sz)++ds++cs.drop ((off+xs.length+ys.length)*v.sz)).length=cs.length:=by
   simp only[List.length_append,List.length_take,List.length_drop];omega
  refine .inr ⟨l,off,c,_,by simp,h2,at_of hTl (y5d_ ..),(fun k e=>by rw[hlen];exact h6 k e),by rw[hlen,List.length_append];simpa[Nat.add_assoc]using hroom,fun i a hi=>?_⟩;by_cases hlt:i<xs.length
  ·rw[List.getElem?_append_left hlt]at hi
   have:=y2z_ (s:=v.sz) (show off+i<off+xs.length by omega);refine hf (σ.at T t) _ _ _ ?_;rw[win (ds:=cs) (b:=(off+i)*v.sz) fun q hq=>by
    rw[List.append_assoc,List.getElem?_append_left (by simp only[List.length_take];omega),List.getElem?_take_of_lt (by omega)]]
   exact h5 i a hi
  ·rw[List.getElem?_append_right (by omega)]at hi
   have hlt2:=(List.getElem?_eq_some_iff.1 hi).1;have:=y2z_ (s:=v.sz) hlt2;refine hf σ _ _ _ ?_;have e:(off+i)*v.sz=(off+xs.length)*v.sz+(i-xs.length)*v.sz:=by rw[<-Nat.add_mul];congr 1;omega
   rw[win (ds:=ds) (b:=(i-xs.length)*v.sz) fun q hq=>by
    rw[List.append_assoc,List.getElem?_append_right (by simp only[List.length_take];omega),List.getElem?_append_left (by simp only[List.length_take];omega)]
    congr 1;simp only[List.length_take];omega]
   exact hr _ a hi
 have hfr:∀(σ':Heap) (hn':Tn σ' T),Own v ((σ'.new (.cells .rw v.sz ((cs.drop (off*v.sz)).take (xs.length*v.sz)++ds))).at (T.upd σ'.next t) t) (xs++ys) (.sl σ'.next 0 (xs.length+ys.length) none):=fun σ' hn'=>by
  have e:(off+xs.length)*v.sz=off*v.sz+xs.length*v.sz:=Nat.add_mul ..;refine hfresh σ' hn' _ (by simp only[List.length_take,List.length_drop];omega) fun i a hi=>?_;have hlt:=(List.getElem?_eq_some_iff.1 hi).1;have:=y2z_ (s:=v.sz) hlt;have e2:(off+i)*v.sz=off*v.sz+i*v.sz:=Nat.add_mul ..;refine hf (σ.at T t) _ _ _ ?_;rw[win (ds:=cs) (b:=(off+i)*v.sz) fun q hq=>by
   rw[List.getElem?_take_of_lt (by omega),List.getElem?_drop];congr 1;omega]
  exact h5 i a hi
 cases c with
 | some k=>
  by_cases hk:xs.length+ys.length<=k
  ·have:=h6 k rfl
   have h7:(off+xs.length+ys.length)*v.sz<=(off+k)*v.sz:=Nat.mul_le_mul_right _ (by omega);refine⟨_,_,T,fun K=>?_,hroom (by omega),y2p_ hn hTl⟩;simp only[appC,hg];rw[if_pos ⟨trivial,v.pos,h4⟩,if_neg h0,if_pos ⟨hb,hb'⟩];simp only[hk,if_true];rw[if_pos ⟨trivial,by omega⟩]
  ·refine⟨_,_,_,fun K=>?_,hfr σ hn,y28_ hn⟩
   simp only[appC,hg];rw[if_pos ⟨trivial,v.pos,h4⟩,if_neg h0,if_pos ⟨hb,hb'⟩];simp only[if_neg hk];rfl
 | none=>
  by_cases hr2:(off+xs.length+ys.length)*v.sz<=cs.length
  ·refine⟨_,_,T,fun K=>?_,hroom hr2,y2p_ hn hTl⟩
   simp only[appC,hg];rw[if_pos ⟨trivial,v.pos,h4⟩,if_neg h0,if_pos ⟨hb,hb'⟩];simp only[if_true,if_pos hr2]
  ·have hn':Tn (σ.kill l) T:=⟨hn.z⟩
   refine⟨_,_,_,fun K=>?_,hfr (σ.kill l) hn',(ygw_ hn hTl).trans (y28_ hn')⟩;simp only[appC,hg];rw[if_pos ⟨trivial,v.pos,h4⟩,if_neg h0,if_pos ⟨hb,hb'⟩];simp only[if_true,if_neg hr2];rfl
def ptrK(x:AVal)(sz i k:Nat):AVal:=match x with
 | .sl l off _ _=>.ptr l ((off+i)*sz+k)
 |_=>.nilp
theorem Own.store(hf:v.Flat)(h:Own v (σ.at T t) xs x)(hn:Tn σ T)(hi:xs[i]?=some a){k:Nat}{as0 vs:List AVal}{a':α}(hk:k+vs.length<=v.sz)(hra:v.rel σ a as0->v.rel σ a' (as0.take k++vs++as0.drop (k+vs.length)))
  (has:∀bs,v.rel σ a bs->bs=as0):∃τ,(∀{R:Type} (K:Heap->Option R),stC σ (ptrK x v.sz i k) vs K=K τ)/\Own v (τ.at T t) (xs.set i a') x/\Hop (only t) σ T τ T/\τ.next=σ.next:=by
 rcases h with ⟨rfl,rfl⟩|⟨l,off,c,cs,rfl,h2,h3,h6,h4,h5⟩
 ·simp at hi
 ·obtain⟨hTl,hg⟩:=ys_.1 h3
  have hlt:=(List.getElem?_eq_some_iff.1 hi).1;have e:=y2z_ (s:=v.sz) (show off+i<off+xs.length by omega);have hr:=hf _ σ _ _ (h5 i a hi);have hea:=has _ hr;have hlen:(cs.take ((off+i)*v.sz+k)++vs++cs.drop ((off+i)*v.sz+k+vs.length)).length=cs.length:=by
   simp only[List.length_append,List.length_take,List.length_drop];omega
  refine⟨σ.set l (.cells .rw v.sz (cs.take ((off+i)*v.sz+k)++vs++cs.drop ((off+i)*v.sz+k+vs.length))),fun K=>?_,.inr ⟨l,off,c,_,by simp,h2,at_of hTl (y5d_ ..),(fun k e=>by rw[hlen];exact h6 k e),by rw[hlen,List.length_set];exact h4,fun j b hj=>?_⟩,y2p_ hn hTl,rfl⟩
  ·simp only[ptrK,stC,hg]
   rw[if_pos (by omega)]
  ·rw[List.getElem?_set]at hj
   by_cases hij:i=j
   ·subst hij
    rw[if_pos rfl,if_pos hlt]at hj;cases hj;refine hf σ _ _ _ ?_;subst hea;have:((cs.take ((off+i)*v.sz+k)++vs++cs.drop ((off+i)*v.sz+k+vs.length)).drop ((off+i)*v.sz)).take v.sz=((cs.drop ((off+i)*v.sz)).take v.sz).take k++vs++((cs.drop ((off+i)*v.sz)).take v.sz).drop (k+vs.length):=by
     apply List.ext_getElem? fun q=>?_;by_cases q1:q<v.sz
     ·rw[List.getElem?_take_of_lt q1,List.getElem?_drop]
      by_cases q2:q<k
      ·rw[List.append_assoc,List.append_assoc,List.getElem?_append_left (by simp;omega),List.getElem?_append_left (by simp;omega),List.getElem?_take_of_lt (by omega),List.getElem?_take_of_lt q2,List.getElem?_take_of_lt q1,List.getElem?_drop]
      ·by_cases q3:q<k+vs.length
       ·rw[List.getElem?_append_left (by simp;omega),List.getElem?_append_right (by simp;omega),List.getElem?_append_left (by simp;omega),List.getElem?_append_right (by simp;omega)]
        congr 1;simp;omega
       ·rw[List.getElem?_append_right (by simp;omega),List.getElem?_append_right (by simp;omega),List.getElem?_drop,List.getElem?_drop,List.getElem?_take_of_lt (by simp;omega),List.getElem?_drop]
        congr 1;simp;omega
     ·rw[List.getElem?_eq_none (by simp;omega),List.getElem?_eq_none (by simp;omega)]
    rw[this];exact hra hr
   ·rw[if_neg hij]at hj
    have hjl:=(List.getElem?_eq_some_iff.1 hj).1;have e2:=y2z_ (s:=v.sz) (show off+j<off+xs.length by omega);refine hf (σ.at T t) _ _ _ ?_;rw[win (ds:=cs) (b:=(off+j)*v.sz) fun q hq=>?_]
    ·exact h5 j b hj
    ·rcases Nat.lt_or_gt_of_ne hij with hlt'|hgt
     ·have e3:=y2z_ (s:=v.sz) (show off+i<off+j by omega)
      rw[List.getElem?_append_right (by simp only[List.length_append,List.length_take];omega),List.getElem?_drop]
      congr 1;simp only[List.length_append,List.length_take];omega
     ·have e3:=y2z_ (s:=v.sz) (show off+j<off+i by omega)
      rw[List.append_assoc,List.getElem?_append_left (by simp only[List.length_take];omega),List.getElem?_take_of_lt (by omega)]
theorem SlV.slice(h:SlV v σ xs x){lo hi:Nat}(h1:lo<=hi)(h2:hi<=xs.length):∃x',(∀{τ:Heap},Hle σ τ->∀{R:Type} (K:AVal->Option R),slS τ v.sz x (lo:Int) (some (hi:Int)) none K=K x'/\(hi=xs.length->slS τ v.sz x (lo:Int) none none K=K x'))/\SlV v σ ((xs.take hi).drop lo) x':=by
 rcases h with ⟨rfl,rfl⟩|⟨l,off,c,md,cs,rfl,k2,k3,k4,k5⟩
 ·simp at h2
  obtain rfl:lo=0:=by omega
  subst h2;exact⟨.nils,fun L _ K=>⟨by simp[slS],fun _=>by simp[slS]⟩,.inl ⟨rfl,rfl⟩⟩
 ·refine⟨.sl l (off+lo) (hi-lo) (y19_ none c lo),fun {τ} L R K=>⟨?_,fun e=>?_⟩,.inr ⟨l,off+lo,_,md,cs,by rw[List.length_drop,List.length_take,Nat.min_eq_left h2],k2,k3,?_,fun i a ha=>?_⟩⟩
  ·simp only[slS,L.get _ _ k2 k3]
   rw[if_pos ⟨trivial,by omega,by simp;omega,by simp;omega,by simp,by simp⟩];simp
  ·subst e
   simp only[slS,L.get _ _ k2 k3];rw[if_pos ⟨trivial,by omega,by simp;omega,by simp,by simp,by simp⟩];simp
  ·have h8:(off+lo+((xs.take hi).drop lo).length)*v.sz<=(off+xs.length)*v.sz:=Nat.mul_le_mul_right _ (by simp;omega)
   omega
  ·rw[List.getElem?_drop,List.getElem?_take]at ha
   split at ha
   ·have:=k5 _ _ ha
    rwa [<-Nat.add_assoc]at this
   ·cases ha
theorem Own.slice(h:Own v σ xs x){lo hi:Nat}(h1:lo<=hi)(h2:hi<=xs.length):∃x',(∀{τ:Heap},Hle σ τ->∀{R:Type} (K:AVal->Option R),slS τ v.sz x (lo:Int) (some (hi:Int)) none K=K x'/\(hi=xs.length->slS τ v.sz x (lo:Int) none none K=K x'))/\Own v σ ((xs.take hi).drop lo) x':=by
 rcases h with ⟨rfl,rfl⟩|⟨l,off,c,cs,rfl,k2,k3,k6,k4,k5⟩
 ·simp at h2
  obtain rfl:lo=0:=by omega
  subst h2;exact⟨.nils,fun L _ K=>⟨by simp[slS],fun _=>by simp[slS]⟩,.inl ⟨rfl,rfl⟩⟩
 ·refine⟨.sl l (off+lo) (hi-lo) (y19_ none c lo),fun {τ} L R K=>⟨?_,fun e=>?_⟩,.inr ⟨l,off+lo,_,cs,by rw[List.length_drop,List.length_take,Nat.min_eq_left h2],k2,k3,fun k e=>?_,?_,fun i a ha=>?_⟩⟩
  ·simp only[slS,L.get _ _ k2 k3]
   rw[if_pos ⟨trivial,by omega,by simp;omega,by simp;omega,by simp,by simp⟩];simp
  ·subst e
   simp only[slS,L.get _ _ k2 k3];rw[if_pos ⟨trivial,by omega,by simp;omega,by simp,by simp,by simp⟩];simp
  ·cases c with
   |none=>simp[y19_]at e
   | some m=>
    simp[y19_]at e;have:=k6 m rfl;by_cases hm:lo<=m
    ·rw[show off+lo+k=off+m by omega];exact this
    ·have h8:(off+lo+k)*v.sz<=(off+xs.length)*v.sz:=Nat.mul_le_mul_right _ (by omega)
     omega
  ·have h8:(off+lo+((xs.take hi).drop lo).length)*v.sz<=(off+xs.length)*v.sz:=Nat.mul_le_mul_right _ (by simp;omega)
   omega
  ·rw[List.getElem?_drop,List.getElem?_take]at ha
   split at ha
   ·have:=k5 _ _ ha
    rwa [<-Nat.add_assoc]at this
   ·cases ha
end
section
variable{α:Type}{v:Vw α}{σ τ:Heap}{T T':Tg}{t l:Nat}{xs:List α}{x:AVal}{cs:List AVal}{I:Nat->Bool}{ps:List (Int×AVal)}
theorem Loc.hop(h:Loc (σ.at T t) l cs)(H:Hop I σ T τ T')(hI:I t=false:=by rfl):Loc (τ.at T' t) l cs:=h.mono (H.le hI)
theorem Own.hop(h:Own v (σ.at T t) xs x)(H:Hop I σ T τ T')(hI:I t=false:=by rfl):Own v (τ.at T' t) xs x:=h.mono (H.le hI)
theorem SlV.hop(h:SlV v (σ.at T t) xs x)(H:Hop I σ T τ T')(hI:I t=false:=by rfl):SlV v (τ.at T' t) xs x:=h.mono (H.le hI)
theorem MapV.hop(h:MapV (σ.at T t) l ps)(H:Hop I σ T τ T')(hI:I t=false:=by rfl):MapV (τ.at T' t) l ps:=h.mono (H.le hI)
theorem Hop.hop{J:Nat->Bool}{σ0:Heap}{T0:Tg}(h:Hop J σ0 T0 σ T)(H:Hop I σ T τ T')(hI:∀i,I i=true->J i=true:=by intro i hi;simp at hi⊢;omega):Hop J σ0 T0 τ T':=h.trans (H.sub hI)
theorem Hop.hle{J:Nat->Bool}{σ0:Heap}{T0:Tg}(h:Hop J σ0 T0 σ T)(L:Hle σ τ):Hop J σ0 T0 τ T:=h.trans (Hop.of h.tn L)
theorem Loc.hle(h:Loc (σ.at T t) l cs)(L:Hle σ τ):Loc (τ.at T t) l cs:=h.mono (L.ats T t)
theorem Own.hle(h:Own v (σ.at T t) xs x)(L:Hle σ τ):Own v (τ.at T t) xs x:=h.mono (L.ats T t)
theorem SlV.hle(h:SlV v (σ.at T t) xs x)(L:Hle σ τ):SlV v (τ.at T t) xs x:=h.mono (L.ats T t)
theorem MapV.hle(h:MapV (σ.at T t) l ps)(L:Hle σ τ):MapV (τ.at T t) l ps:=h.mono (L.ats T t)
end
section
variable{R α β:Type}{v:Vw α}{w:Vw β}{σ:Heap}{T:Tg}{t i l:Nat}{xs ys:List α}{x y:AVal}{a:α}{cs:List AVal}{Q:R->Prop}
theorem W.own_push(hf:v.Flat)(h:Own v (σ.at T t) xs x)(hn:Tn σ T)(hr:v.rel σ a cs){sz bytes:Nat}(hb:(xs.length+1)*bytes<=70368744177664)(hb':xs.length+1<=70368744177664){K:AVal->Heap->Option R}
  (c:∀x' τ T',Own v (τ.at T' t) (xs++[a]) x'->Hop (only t) σ T τ T'->W (K x' τ) Q) (hs:sz=v.sz:=by rfl):W (newK σ sz cs fun l τ=>appS τ sz bytes x (.sl l 0 1 none) K) Q:=by
 subst hs;have L1:=(Hle.refl σ).new (.cells .rw v.sz cs);have hc:=v.len hr;obtain⟨x',τ,T',e,h1,h2⟩:=(h.mono (L1.ats T t)).app hf (hn.mono L1) (ds:=cs) (ys:=[a]) (by simpa using hc) (fun i b hb=>by
  match i,hb with
  |0,hb=>
   cases hb;rw[Nat.zero_mul,List.drop_zero,List.take_of_length_le (by omega)];exact v.mono L1 hr
  |i+1,hb=>simp at hb) (bytes:=bytes) (by simpa using hb) (by simpa using hb')
 refine W.to ?_ (c x' τ T' h1 ((Hop.of hn L1).trans h2));rw[<-e K];simp only[newK,appS,srcK,yi_,if_true,List.length_singleton];rw[if_pos ⟨trivial,by simp[hc]⟩];simp[<-hc]
theorem W.own_app(hf:v.Flat)(h:Own v (σ.at T t) xs x)(hn:Tn σ T)(hy:SlV v σ ys y){sz bytes:Nat}(hb:(xs.length+ys.length)*bytes<=70368744177664)(hb':xs.length+ys.length<=70368744177664){K:AVal->Heap->Option R}
  (c:∀x' τ T',Own v (τ.at T' t) (xs++ys) x'->Hop (only t) σ T τ T'->W (K x' τ) Q) (hs:sz=v.sz:=by rfl):W (appS σ sz bytes x y K) Q:=by
 subst hs;obtain⟨ds,e0,hd,hr⟩:=hy.src;obtain⟨x',τ,T',e,h1,h2⟩:=h.app hf hn hd hr (bytes:=bytes) hb hb';refine W.to ?_ (c x' τ T' h1 h2);rw[<-e K];exact e0 _
theorem W.own_set(hf:v.Flat)(h:Own v (σ.at T t) xs x)(hn:Tn σ T)(hi:xs[i]?=some a){k sz:Nat}(as0:List AVal){vs:List AVal}(a':α){K:Heap->Option R}(hk:k+vs.length<=v.sz)
  (has:∀bs,v.rel σ a bs->bs=as0) (hra:v.rel σ a as0->v.rel σ a' (as0.take k++vs++as0.drop (k+vs.length)))
  (c:∀τ,Own v (τ.at T t) (xs.set i a') x->Hop (only t) σ T τ T->τ.next=σ.next->W (K τ) Q) (hs:sz=v.sz:=by rfl):W (stC σ (ptrK x sz i k) vs K) Q:=by
 subst hs;obtain⟨τ,e,h1,h2,h3⟩:=h.store hf hn hi hk hra has;exact W.to (e K) (c τ h1 h2 h3)
theorem W.own_setI{xs:List Int}{a:Int}(h:Own .int (σ.at T t) xs x)(hn:Tn σ T)(hi:i<xs.length){K:Heap->Option R}
  (c:∀τ,Own .int (τ.at T t) (xs.set i a) x->Hop (only t) σ T τ T->τ.next=σ.next->W (K τ) Q):W (stC σ (ptrK x 1 i 0) [.int .i64 a] K) Q:=
 W.own_set Vw.int_flat h hn (List.getElem?_eq_getElem hi) [.int .i64 xs[i]] a (Nat.le_refl _) (fun _ h=>h) (fun _=>rfl) c
theorem W.own_setB{xs:List Bool}{a:Bool}(h:Own .bool (σ.at T t) xs x)(hn:Tn σ T)(hi:i<xs.length){K:Heap->Option R}
  (c:∀τ,Own .bool (τ.at T t) (xs.set i a) x->Hop (only t) σ T τ T->τ.next=σ.next->W (K τ) Q):W (stC σ (ptrK x 1 i 0) [.bool a] K) Q:=
 W.own_set Vw.bool_flat h hn (List.getElem?_eq_getElem hi) [.bool xs[i]] a (Nat.le_refl _) (fun _ h=>h) (fun _=>rfl) c
def vRaw:Vw AVal:=⟨1,fun _ a us=>us=[a],Nat.one_pos,fun h=>by rw[h];rfl,fun _ h=>h⟩
theorem y3m_:vRaw.Flat:=fun _ _ _ _ h=>h
theorem W.own_setV{xs:List AVal}{a:AVal}(h:Own vRaw (σ.at T t) xs x)(hn:Tn σ T)(hi:i<xs.length){K:Heap->Option R}
  (c:∀τ,Own vRaw (τ.at T t) (xs.set i a) x->Hop (only t) σ T τ T->τ.next=σ.next->W (K τ) Q):W (stC σ (ptrK x 1 i 0) [a] K) Q:=
 W.own_set y3m_ h hn (List.getElem?_eq_getElem hi) [xs[i]] a (Nat.le_refl _) (fun _ h=>h) (fun _=>rfl) c
theorem W.ixO(h:SlV v σ xs x)(hi:i<xs.length){sz:Nat}{K:AVal->Option R}(c:W (K (ptrK x sz i 0)) Q)(hs:sz=v.sz:=by rfl):W (ixA σ x sz (i:Int) K) Q:=by
 subst hs;rcases h with ⟨rfl,rfl⟩|⟨l,off,c',md,cs,rfl,h2,h3,h4,h5⟩
 ·simp at hi
 ·refine W.to ?_ c
  simp only[ixA,h3];rw[if_pos ⟨trivial,by omega,by omega⟩,Int.toNat_natCast];rfl
theorem W.fldO(h:SlV v σ xs x)(hi:i<xs.length){sz k j:Nat}{K:AVal->Option R}(c:W (K (ptrK x sz i (k+j))) Q):W (fld (ptrK x sz i k) j K) Q:=by
 rcases h with ⟨rfl,rfl⟩|⟨l,off,c',md,cs,rfl,h2,h3,h4,h5⟩
 ·simp at hi
 ·refine W.to ?_ c
  simp only[fld,ptrK,Nat.add_assoc]
theorem W.ldO(h:SlV v σ xs x)(hi:xs[i]?=some a){sz k:Nat}{u:AVal}{kd:Kd}{K:kd.ty->Option R}(hk:∀as0,v.rel σ a as0->as0[k]?=some u)(c:W (asK kd u K) Q)(hs:sz=v.sz:=by rfl):W (ld σ (ptrK x sz i k) kd K) Q:=by
 subst hs;rcases h with ⟨rfl,rfl⟩|⟨l,off,c',md,cs,rfl,h2,h3,h4,h5⟩
 ·simp at hi
 ·have hr:=h5 i a hi
  have h6:=hk _ hr;have hlt:k<v.sz:=by rw[<-v.len hr];exact(List.getElem?_eq_some_iff.1 h6).1
  rw[List.getElem?_take_of_lt hlt,List.getElem?_drop]at h6;refine W.to ?_ c;simp only[ptrK,ld,Heap.cell,h3,h6]
theorem W.ldGO(h:SlV v σ xs x)(hi:xs[i]?=some a){sz:Nat}{K:AVal->Option R}(as0:List AVal)(hk:∀bs,v.rel σ a bs->bs=as0)(c:W (K (.agg as0)) Q)(hs:sz=v.sz:=by rfl):W (ldG σ (ptrK x sz i 0) sz K) Q:=by
 subst hs;rcases h with ⟨rfl,rfl⟩|⟨l,off,c',md,cs,rfl,h2,h3,h4,h5⟩
 ·simp at hi
 ·have hr:=h5 i a hi
  have:=hk _ hr;have hlt:=(List.getElem?_eq_some_iff.1 hi).1;have:=y2z_ (s:=v.sz) (show off+i<off+xs.length by omega);refine W.to ?_ c;simp only[ptrK,ldG,h3,Nat.add_zero];rw[if_pos (by omega),hk _ hr]
theorem W.ldOV{xs:List AVal}{a:AVal}(h:SlV vRaw σ xs x)(hi:xs[i]?=some a){K:AVal->Option R}(c:W (K a) Q):W (ld σ (ptrK x 1 i 0) .V K) Q:=
 W.ldO h hi (u:=a) (fun as0 h=>by have h:as0=[a]:=h;rw[h];rfl) c
theorem W.ixV{xs:List AVal}{a:AVal}(h:SlV vRaw σ xs x)(hi:xs[i]?=some a){K:AVal->Option R}(c:W (K a) Q):W (ixA σ x 1 (i:Int) fun p=>ld σ p .V K) Q:=
 W.ixO h (List.getElem?_eq_some_iff.1 hi).1 (W.ldOV h hi c)
theorem W.newT(t:Nat)(hn:Tn σ T){sz:Nat}{K:Nat->Heap->Option R}(c:∀l τ T',l=σ.next->Hop (only t) σ T τ T'->Loc (τ.at T' t) l cs->τ.next=σ.next+1->W (K l τ) Q):W (newK σ sz cs K) Q:=
 c σ.next _ (T.upd σ.next t) rfl (y28_ hn) ⟨Nat.lt_succ_self _,sz,at_of y14_ (by rw[yi_,if_pos rfl])⟩ rfl
theorem W.new0(hn:Tn σ T){sz:Nat}{K:Nat->Heap->Option R}(c:∀l τ,l=σ.next->Hle σ τ->Loc (τ.at T 0) l cs->Tn τ T->W (K l τ) Q):W (newK σ sz cs K) Q:=
 have L:=(Hle.refl σ).new (.cells .rw sz cs)
 c σ.next _ rfl L ⟨Nat.lt_succ_self _,sz,at_of (hn.z _ (Nat.le_refl _)) (by rw[yi_,if_pos rfl])⟩ (hn.mono L)
theorem W.stT{o:Nat}{vs:List AVal}(h:Loc (σ.at T t) l cs)(hn:Tn σ T)(hv:o+vs.length<=cs.length){K:Heap->Option R}(c:∀τ,Hop (only t) σ T τ T->Loc (τ.at T t) l (cs.take o++vs++cs.drop (o+vs.length))->τ.next=σ.next->W (K τ) Q):W (stC σ (.ptr l o) vs K) Q:=by
 obtain⟨sz,e⟩:=h.get;obtain⟨e1,e2⟩:=ys_.1 e;refine W.to (o':=K (σ.set l (.cells .rw sz (cs.take o++vs++cs.drop (o+vs.length))))) ?_ (c _ (y2p_ hn e1) ⟨h.lt,sz,at_of e1 (y5d_ ..)⟩ rfl);simp only[stC,e2,if_pos hv]
theorem Loc.up(h:Loc (σ.at T t) l cs):Loc σ l cs:=h.mono at_le
theorem W.mgetT{ps:List (Int×AVal)}(h:MapV (σ.at T t) l ps){n:Int}{z:AVal}{K:AVal->Bool->Option R}(c:W (K ((look ps n).getD z) (look ps n).isSome) Q):W (A.mgetZ σ (.map l) .i64 n z K) Q:=W.to ((h.mono at_le).mgetZ z K) c
theorem W.mputT{ps:List (Int×AVal)}(h:MapV (σ.at T t) l ps)(hn:Tn σ T){n:Int}{x:AVal}{K:Heap->Option R}
  (c:∀τ qs,MapV (τ.at T t) l qs->(∀k,look qs k=if k=n then some x else look ps k)->Hop (only t) σ T τ T->τ.next=σ.next->W (K τ) Q):W (mputK σ (.map l) .i64 n x K) Q:=by
 have hg:=ys_.1 h.get;obtain⟨qs,h1,h2,h3,_⟩:=(h.mono at_le).mput n x;exact W.to (h1 K) (c _ qs ⟨h2.lt,at_of hg.1 h2.get,h2.nodup⟩ h3 (y2p_ hn hg.1) rfl)
theorem W.newMT(t:Nat)(hn:Tn σ T){K:Nat->Heap->Option R}(c:∀l τ T',l=σ.next->Hop (only t) σ T τ T'->MapV (τ.at T' t) l []->τ.next=σ.next+1->W (K l τ) Q):W (A.newM σ K) Q:=
 have h:=MapV.new σ
 c σ.next _ (T.upd σ.next t) rfl (y28_ hn) ⟨h.lt,at_of y14_ h.get,h.nodup⟩ rfl
end
theorem W.u0{R:Type}{Q:R->Prop}{σ:Heap}{T:Tg}{t l o:Nat}{cs:List AVal}{a:AVal}{kd:Kd}{K:kd.ty->Option R}(c:W (asK kd a K) Q)(h:Loc (σ.at T t) l cs:=by assumption)(hk:cs[o]?=some a:=by with_unfolding_all rfl):W (ld σ (.ptr l o) kd K) Q:=W.ldL h.up hk c
theorem W.u1{R:Type}{Q:R->Prop}{σ:Heap}{T:Tg}{t l o n:Nat}{cs:List AVal}{K:AVal->Option R}(c:W (K (.agg ((cs.drop o).take n))) Q)(h:Loc (σ.at T t) l cs:=by assumption)(hk:Nat.ble (o+n) cs.length=true:=by with_unfolding_all rfl):W (ldG σ (.ptr l o) n K) Q:=W.ldGL h.up (Nat.le_of_ble_eq_true hk) c
theorem W.u2{R:Type}{Q:R->Prop}{σ:Heap}{T:Tg}{t:Nat}{x:AVal}{xs:List Int}{i:Nat}{a:Int}{K:Int->Option R}(c:W (K a) Q)(h:Own .int (σ.at T t) xs x:=by assumption)(ha:xs[i]?=some a:=by assumption):W (ixA σ x 1 (i:Int) fun p=>ld σ p (.I .i64) K) Q:=W.ixIc h.slT ha c
theorem W.u3{R α:Type}{v:Vw α}{Q:R->Prop}{σ:Heap}{T:Tg}{t:Nat}{x:AVal}{xs:List α}{K:Int->Option R}(k:W (K (xs.length:Int)) Q)(h:Own v (σ.at T t) xs x:=by assumption):W (lenV x K) Q:=W.len h.slT k
theorem W.u4{R α:Type}{v:Vw α}{Q:R->Prop}{σ:Heap}{T:Tg}{t:Nat}{x:AVal}{xs:List α}{X:Option R}(k:W X Q)(h:Own v (σ.at T t) xs x:=by assumption):W (scal x X) Q:=W.scalS h.slT k
end
section
open Go
abbrev Cls:=List (Option (List Int))
def lv(cls:Cls):List (List Int):=cls.filterMap id
def clAt(cls:Cls)(id:Nat):Option (List Int):=(cls[id]?).join
def hits(cls:Cls)(p:List Int->Bool)(id:Nat):Bool:=match clAt cls id with
 |some c=>p c
 |none=>false
def idsBy(cls:Cls)(p:List Int->Bool):List Int:=((List.range cls.length).filter (hits cls p)).map fun(n:Nat)=>(n:Int)
def hasP(x:Int):List Int->Bool:=fun c=>decide (x∈c)
def yju_:List Int->Bool:=fun c=>decide (c.length<2)
def y98_(vars:Int)(c:List Int):Prop:=∀l∈c,l≠0/\-vars<=l/\l<=vars
abbrev negs(c:List Int):List Int:=c.map fun l => -l
end
section
open Go
def tgL(x:Int):Nat:=20+2*x.natAbs+if x<0 then 1 else 0
def AllBy(σ:Heap)(T:Tg)(f:Int->List Int)(ps:List (Int×AVal)):Prop:=∀y,Own .int (σ.at T (tgL y)) (f y) ((look ps y).getD .nils)
def AllCl(σ:Heap)(T:Tg)(cls:Cls)(cv:List AVal):Prop:=∀id c,clAt cls id=some c->∃x,cv[id]?=some x/\SlV .int (σ.at T 0) c x
section
variable{σ τ:Heap}{T T':Tg}{I:Nat->Bool}{f:Int->List Int}{ps:List (Int×AVal)}{cls:Cls}{cv:List AVal}
end
structure BaseS(σ:Heap)(T:Tg)(l vars:Nat)(cls:Cls):Prop where
 ex:∃(vc vt:AVal) (lm:Nat) (vs:AVal) (many:Int) (ps:List (Int×AVal)) (cv:List AVal),Loc (σ.at T 1) l [.int .i64 vars,vc,vt,.map lm,vs,.int .i64 many]/\Own vRaw (σ.at T 2) cv vc/\cv.length=cls.length /\
  AllCl σ T cls cv/\Own .bool (σ.at T 3) (cls.map Option.isSome) vt/\MapV (σ.at T 4) lm ps /\
  AllBy σ T (fun x=>idsBy cls (hasP x)) ps/\Own .int (σ.at T 5) (idsBy cls yju_) vs
 ok:∀c∈lv cls,y98_ vars c
 nm:∀c∈lv cls,normL c=c
 vl:vars<=4000
 cl:cls.length<=1000000
 ll:∀c∈lv cls,c.length<=1000000
theorem Fresh.at0{n0:Nat}{τ:Heap}{xs:List Int}{y:AVal}{T:Tg}(h:Fresh n0 τ xs y)(hT:∀k,n0<=k->T k=0):SlV .int (τ.at T 0) xs y:=by
 obtain⟨h,hf⟩:=h;rcases h with h|⟨l,off,c,md,cs,rfl,h2,h3,h4,h5⟩
 ·exact .inl h
 ·exact .inr ⟨l,off,c,md,cs,rfl,h2,at_of (hT l (hf _ _ _ _ rfl)) h3,h4,h5⟩
theorem ycv_(c:List Int):(normL c).Nodup:=(y1g_ c).imp fun h e=>by
 subst e;unfold ltL at h;omega
end
section
open Go
def zeros(vs:List Int):Nat:=(vs.filter fun x=>x==0).length
structure Cin(vars:Nat)(C:List (List Int))(s vs q:List Int)(P:Int->Prop)(m:Nat):Prop where
 ok:Vok vs
 len:vs.length=vars+1
 snd:∀l,val vs l=1->Der C s l
 qd:∀l,val vs l=1->P l\/l∈q
 qt:∀l∈q,val vs l=1
 pt:∀l,P l->val vs l=1
 ms:zeros vs+q.length<=m
section
variable{vars m:Nat}{C:List (List Int)}{s vs q c:List Int}{P:Int->Prop}{l:Int}
end
structure AsgT(σ:Heap)(T:Tg)(la lw:Nat)(vs:List Int):Prop where
 r:AsgR σ la lw vs
 t1:T la=6
 t2:T lw=7
structure CS(σ:Heap)(T:Tg)(la lw l7 l10:Nat)(vs q:List Int):Prop where
 asg:AsgT σ T la lw vs
 box:Loc (σ.at T 8) l7 [.ptr la 0]
 left:∃x,Loc (σ.at T 9) l10 [x]/\Own .int (σ.at T 10) q x
section
variable{vars m:Nat}{C:List (List Int)}{s:List Int}{P:Int->Prop}
end
section
variable{T:Tg}{l vars la lw l7 l10 l1 l12 m:Nat}{cls:Cls}{s:List Int}{f:AVal}
structure CL(σ:Heap)(T:Tg)(l vars la lw l7 l10 l1 l12 m:Nat)(cls:Cls)(s vs q:List Int)(f:AVal)(P:Int->Prop):Prop where
 b:BaseS σ T l vars cls
 st:CS σ T la lw l7 l10 vs q
 n:Tn σ T
 h1:Loc (σ.at T 0) l1 [.ptr l 0]
 h12:Loc (σ.at T 13) l12 [f]
 i:Cin vars (lv cls) s vs q P m
end
end
section
open Go
theorem Acc.at0{n0:Nat}{τ:Heap}{xs:List Int}{y:AVal}{T:Tg}(h:Acc .int n0 τ xs y)(hT:∀k,n0<=k->T k=0):SlV .int (τ.at T 0) xs y:=
 Fresh.at0 ⟨h.sl,fun l off len c e=>(h.loc l off len c e).1⟩ hT
end
section
open Go
section
variable{n:Int}{c:List Int}{ss:List (Bool×List Int)}
theorem yh3_{vars:Int}{c:List Int}:badC vars c=false↔y98_ vars c:=by
 unfold badC y98_;simp[List.any_eq_false,ym_]
theorem yfs_{vars:Int}{cs:List (List Int)}(h:chkC vars cs=none):0<=vars/\vars<=4000/\cs.length<=20000/\cs.flatten.length<=80000/\∀c∈cs,y98_ vars c:=by
 unfold chkC at h
 split at h
 ·cases h
 ·rename_i hb
  have h:cs.findIdx? (badC vars)=none:=by
   cases hf:cs.findIdx? (badC vars) with
   |none=>rfl
   |some k=>rw[hf]at h;cases h
  rw[List.findIdx?_eq_none_iff]at h;exact⟨by omega,by omega,by omega,by omega,fun c hc=>yh3_.1 (by simpa using h c hc)⟩
end
end
section
open Go
theorem yg7_{σ:Heap}{n b:Int}(hb:0<b)(hb2:b<=4611686018427387904):S.z116 n b σ=some (n % b):=by
 unfold S.z116;rw[if_neg (by omega)];have h0:=Int.emod_nonneg n (show b≠0 by omega);have h1:=Int.emod_lt_of_pos n hb;rcases(show n<0\/0<=n by omega)with hn|hn
 ·have e:Int.tmod n b=if n % b=0 then 0 else n % b-b:=by
   rw[Int.tmod_eq_emod]
   split
   ·rename_i h
    rcases h with h|h
    ·omega
    ·have:=Int.emod_eq_zero_of_dvd h;rw[if_pos this];omega
   ·rename_i h
    have:n % b≠0:=fun e=>h (.inr (Int.dvd_of_emod_eq_zero e));rw[if_neg this];omega
  rw[e];by_cases hz:n % b=0
  ·rw[if_pos hz,hz];rfl
  ·rw[if_neg hz]
   have:decide (n % b-b<0)=true:=by simp;omega
   rw[this];have w:IntKind.i64.wrap (n % b-b+b)=n % b:=by rw[wrapS]<;>omega
   rw[w];rfl
 ·have e:Int.tmod n b=n % b:=Int.tmod_eq_emod_of_nonneg hn
  rw[e];have:decide (n % b<0)=false:=by simp;omega
  rw[this];rfl
end
section
open Go
def holds(m:Nat->Bool)(l:Int):Bool:=m l.natAbs==decide (0<l)
def tru(m:Nat->Bool)(c:List Int):Prop:=∃l∈c,holds m l=true
def mods(m:Nat->Bool)(D:List (List Int)):Prop:=∀c∈D,tru m c
def nz(D:List (List Int)):Prop:=∀c∈D,∀l∈c,l≠0
theorem y3j_{m:Nat->Bool}{l:Int}(h:l≠0):holds m (-l) = !holds m l:=by
 unfold holds;rw[Int.natAbs_neg];by_cases h1:0<l
 ·have:¬0 < -l:=by omega
  simp only[h1,this,decide_true,decide_false];cases m l.natAbs<;>rfl
 ·have:0 < -l:=by omega
  simp only[h1,this,decide_true,decide_false];cases m l.natAbs<;>rfl
theorem Der.holds{D:List (List Int)}{s:List Int}{m:Nat->Bool}(hD:mods m D)(hz:nz D)(hs:∀l∈s,A.holds m l=true){l:Int}(h:Der D s l):A.holds m l=true:=by
 induction h with
 |start h=>exact hs _ h
 | unit hc hl _ ih=>
  rename_i c l _;obtain⟨k,hk,ht⟩:=hD c hc;by_cases e:k=l
  ·rw[<-e];exact ht
  ·have:=ih k hk e
   rw[y3j_ (hz c hc k hk),ht]at this;cases this
theorem Conf.false{D:List (List Int)}{s:List Int}{m:Nat->Bool}(hD:mods m D)(hz:nz D)(hs:∀l∈s,A.holds m l=true)(h:Conf D s)(hs0:∀l∈s,l≠0):False:=by
 rcases h with ⟨l,h1,h2⟩|⟨c,hc,h⟩
 ·have e1:=h1.holds hD hz hs
  have e2:=h2.holds hD hz hs;have hl:l≠0:=by
   cases h1 with
   |start h=>exact hs0 _ h
   |unit hc hl _=>exact hz _ hc _ hl
  rw[y3j_ hl,e1]at e2;cases e2
 ·obtain⟨k,hk,ht⟩:=hD c hc
  have:=(h k hk).holds hD hz hs;rw[y3j_ (hz c hc k hk),ht]at this;cases this
theorem ybe_{m:Nat->Bool}{c:List Int}:tru m (normL c)↔tru m c:=⟨fun⟨l,h,k⟩=>⟨l,yd_.1 h,k⟩,fun⟨l,h,k⟩=>⟨l,yd_.2 h,k⟩⟩
end
section
open Go
theorem bit1(z:Int):(IntKind.i64.wrap ((BitVec.toNat (BitVec.ofInt IntKind.i64.bits z &&& BitVec.ofInt IntKind.i64.bits 1):Nat):Int)==1)=decide (z % 2=1):=by
 have e1:IntKind.i64.bits=64:=rfl;rw[e1,BitVec.toNat_and];have e2:(BitVec.ofInt 64 1).toNat=1:=by decide
 rw[e2,Nat.and_one_is_mod,BitVec.toNat_ofInt];have h1:((z % ((2 ^ 64:Nat):Int)).toNat % 2:Nat)=(z % 2).toNat:=by
  have:((2 ^ 64:Nat):Int)=18446744073709551616:=by decide
  rw[this];omega
 rw[h1];have:((z % 2).toNat:Int)=z % 2:=by omega
 rw[this,wrapS (by omega) (by omega)];rw[Bool.eq_iff_iff];simp
def bitZ(n:Int)(k:Nat):Bool:=decide (Int.fdiv n (2 ^ k) % 2=1)
theorem u64w{i:Nat}(h:i<1000000):IntKind.u64.wrap (i:Int)=i:=by
 show((i:Int) % (2 ^ 64:Int))=_;omega
end
section
open Go
def vBR:Vw (Bool×AVal):=⟨2,fun _ a us=>us=[.bool a.1,a.2],by decide,fun h=>by rw[h];rfl,fun _ h=>h⟩
theorem y7t_:vBR.Flat:=fun _ _ _ _ h=>h
end
section
open Go
section
variable{σ τ:Heap}{T T':Tg}{b k:Nat}{xs:List (List Int)}{ws:List AVal}{I:Nat->Bool}{a:List Int}{y:AVal}
def Fam(σ:Heap)(T:Tg)(b:Nat)(xs:List (List Int))(ws:List AVal):Prop:=ws.length=xs.length/\∀i a y,xs[i]?=some a->ws[i]?=some y->Own .int (σ.at T (b+2*i)) a y
theorem Fam.get(h:Fam σ T b xs ws)(hi:k<xs.length):∃a y,xs[k]?=some a/\ws[k]?=some y/\Own .int (σ.at T (b+2*k)) a y:=by
 have h1:=List.getElem?_eq_getElem hi;have h2:=List.getElem?_eq_getElem (show k<ws.length by rw[h.1];exact hi);exact⟨_,_,h1,h2,h.2 k _ _ h1 h2⟩
theorem Fam.nil:Fam σ T b [] []:=⟨rfl,fun i a y h=>by simp at h⟩
theorem Fam.hop(h:Fam σ T b xs ws)(H:Hop I σ T τ T')(hI:∀i,I (b+2*i)=false:=by intro i;simp<;>omega):Fam τ T' b xs ws:=⟨h.1,fun i a y h1 h2=>(h.2 i a y h1 h2).hop H (hI i)⟩
theorem Fam.hle(h:Fam σ T b xs ws)(L:Hle σ τ):Fam τ T b xs ws:=⟨h.1,fun i a y h1 h2=>(h.2 i a y h1 h2).hle L⟩
theorem Fam.hopAt(h:Fam σ T b xs ws)(H:Hop (only (b+2*k)) σ T τ T')(hO:Own .int (τ.at T' (b+2*k)) a y):Fam τ T' b (xs.set k a) (ws.set k y):=by
 refine⟨by simp[h.1],fun i c z h1 h2=>?_⟩;by_cases e:k=i
 ·subst e
  rw[List.getElem?_set]at h1 h2;simp only[if_true]at h1 h2
  split at h1
  ·split at h2
   ·cases h1;cases h2;exact hO
   ·cases h2
  ·cases h1
 ·rw[List.getElem?_set_ne e]at h1 h2
  exact(h.2 i c z h1 h2).hop H (by simp;omega)
theorem Fam.push(h:Fam σ T b xs ws)(hO:Own .int (σ.at T (b+2*xs.length)) a y):Fam σ T b (xs++[a]) (ws++[y]):=by
 refine⟨by simp[h.1],fun i c z h1 h2=>?_⟩;rcases Nat.lt_trichotomy i xs.length with hl|hl|hl
 ·rw[List.getElem?_append_left hl]at h1
  rw[List.getElem?_append_left (by rw[h.1];exact hl)]at h2;exact h.2 i c z h1 h2
 ·subst hl
  rw[List.getElem?_append_right (Nat.le_refl _)]at h1;rw[List.getElem?_append_right (by rw[h.1];exact Nat.le_refl _),h.1]at h2;simp only[Nat.sub_self,List.getElem?_cons_zero]at h1 h2;cases h1;cases h2;exact hO
 ·have:=(List.getElem?_eq_some_iff.1 h1).1
  simp at this;omega
end
theorem W.own_pushN{R:Type}{Q:R->Prop}{σ:Heap}{T:Tg}{t:Nat}{xs:List AVal}{x:AVal}(h:Own vRaw (σ.at T t) xs x)(hn:Tn σ T)(ws:List AVal){n bytes:Nat}(hw:ws.length=n)(hb:(xs.length+ws.length)*bytes<=70368744177664)(hb':xs.length+ws.length<=70368744177664){K:AVal->Heap->Option R}
  (c:∀x' τ T',Own vRaw (τ.at T' t) (xs++ws) x'->Hop (only t) σ T τ T'->W (K x' τ) Q):W (newK σ 1 ws fun l τ=>appS τ 1 bytes x (.sl l 0 n none) K) Q:=by
 subst hw;have L1:=(Hle.refl σ).new (.cells .rw 1 ws);have hsl:SlV vRaw (σ.new (.cells .rw 1 ws)) ws (.sl σ.next 0 ws.length none):=by
  refine .inr ⟨σ.next,0,none,.rw,ws,rfl,Nat.lt_succ_self _,by rw[yi_,if_pos rfl];rfl,by simp[vRaw],fun i a hi=>?_⟩;obtain⟨h8,h9⟩:=List.getElem?_eq_some_iff.1 hi;show _=_;simp only[vRaw,Nat.mul_one,Nat.zero_add];rw[List.drop_eq_getElem_cons h8];simp[h9]
 refine W.own_app y3m_ (h.mono (L1.ats T t)) (hn.mono L1) hsl hb hb' fun x' τ T' h1 h2=>?_;exact c x' τ T' h1 ((Hop.of hn L1).trans h2)
section
variable{σ τ:Heap}{T T':Tg}{la t u vars:Nat}{xa:AVal}{vs:List Int}
theorem yfe_(h1:Loc (σ.at T t) la [xa])(h2:Own .i8 (σ.at T u) vs xa)(hn:Tn σ T)(htu:t≠u)(hv:vars<=4000)(hl:vs.length<=4001) :
  W (S.z0 (.ptr la 0) (vars:Int) σ) fun r=>∃T' xa',Hop (fun j=>j==t||j==u) σ T r.2 T'/\Loc (r.2.at T' t) la [xa']/\Own .i8 (r.2.at T' u) (vs++List.replicate (vars+1-vs.length) 0) xa':=by
 unfold S.z0;refine W.bind ?_;have hut:(only u) t=false:=by simp;exact htu
 have htu':(only t) u=false:=by simp;exact fun e=>htu e.symm
 refine W.mono (P:=fun r=>∃T' xa',Hop (fun j=>j==t||j==u) σ T r.2 T'/\Loc (r.2.at T' t) la [xa']/\Own .i8 (r.2.at T' u) (vs++List.replicate (vars+1-vs.length) 0) xa') ?_ fun r hr=>W.ret hr;refine W.loopI (m:=vars+1-vs.length) (fun m (_:Unit) τ=>∃T' xa' k,Hop (fun j=>j==t||j==u) σ T τ T'/\Loc (τ.at T' t) la [xa']/\Own .i8 (τ.at T' u) (vs++List.replicate k 0) xa'/\m+k=vars+1-vs.length) ⟨T,xa,0,Hop.refl hn,h1,by simpa using h2,by omega⟩ fun m _ τ hI=>?_;obtain⟨T',xa',k,H,h1,h2,e⟩:=hI;unfold S.z0.b0
 repeat' with_reducible first|refine W.bind ?_|refine W.asV ?_|refine W.fldp ?_|refine W.nck ?_|refine W.u0 ?_|refine W.u3 ?_
 refine W.to (yb6_ (by omega) (by omega)) ?_
 repeat' with_reducible refine W.ret ?_
 (with_reducible refine W.cnd (fun hc=>?_) (fun hc=>?_)<;>(try simp only[qq,Kd.ty]at hc)<;>(try (exfalso;omega)))
 ·repeat' with_reducible first|refine W.asV ?_|refine W.fldp ?_|refine W.nck ?_|refine W.u0 ?_
  refine W.own_push Vw.i8_flat h2 H.tn (a:=0) rfl (by simp;omega) (by simp;omega) fun x2 τ2 T2 h2 H2=>?_;have h1:=h1.hop H2 hut
  repeat' with_reducible first|refine W.fldp ?_|refine W.nck ?_|refine W.u4 ?_
  refine W.stT h1 H2.tn (Nat.le_of_ble_eq_true (by rfl)) fun τ3 H3 h1 _=>?_
  repeat' (with_reducible refine W.next ?_)
  refine⟨m-1,by simp at *;omega,T2,x2,k+1,(H.hop H2 (fun i hi=>by simp at hi⊢;exact .inr hi)).hop H3 (fun i hi=>by simp at hi⊢;exact .inl hi),h1,?_,by simp at *;omega⟩;have:=h2.hop H3 htu';rw[List.append_assoc]at this
  rwa [List.replicate_succ',]
 ·repeat' (with_reducible refine W.stop ?_)
  refine⟨T',xa',H,h1,?_⟩;have:k=vars+1-vs.length:=by simp at *;omega
  rw[<-this];exact h2
theorem y3y_(h1:Loc (σ.at T t) la [xa])(h2:Own .i8 (σ.at T u) vs xa)(hl:vs.length<=4001):S.z4 (.ptr la 0) σ=some ((vs.length:Int)-1):=by
 obtain⟨r,e,rfl⟩:W (S.z4 (.ptr la 0) σ) fun r=>r=(vs.length:Int)-1:=by
  unfold S.z4
  repeat' with_reducible first|refine W.ret ?_|refine W.asV ?_|refine W.fldp ?_|refine W.nck ?_|refine W.u0 ?_|refine W.u3 ?_
  rw[wrapS]<;>omega
 exact e
end
structure PS where
 vs:List Int
 lev:List Int
 rea:List Int
 trail:List Int
 marks:List Int
 head:Int
 cls:List (List Int×Bool×Bool)
 wat:List (List Int)
 loose:List Int
structure PH where
 la:Nat
 xa:AVal
 xl:AVal
 xr:AVal
 xt:AVal
 xm:AVal
 xc:AVal
 xw:AVal
 xo:AVal
 cs:List (AVal×Bool×Bool)
 ws:List AVal
def vCl:Vw (AVal×Bool×Bool):=⟨3,fun _ a us=>us=[a.1,.bool a.2.1,.bool a.2.2],by omega,fun h=>by rw[h];rfl,fun _ h=>h⟩
theorem y5t_:vCl.Flat:=fun _ _ _ _ h=>h
def pI:Nat->Bool:=fun j=>(decide (1<=j)&&decide (j<=10))||decide (50<=j)
theorem Hop.inP{σ0 σ τ:Heap}{T0 T T':Tg}{t:Nat}(h:Hop pI σ0 T0 σ T)(H:Hop (only t) σ T τ T')(ht:pI t=true:=by rfl):Hop pI σ0 T0 τ T':=h.trans (H.sub (fun i hi=>by
 have:i=t:=by simpa using hi
 rw[this];exact ht))
structure PropH(σ:Heap)(T:Tg)(lp:Nat)(h:PH)(s:PS):Prop where
 obj:Loc (σ.at T 1) lp [.ptr h.la 0,h.xl,h.xr,h.xt,h.xm,.int .i64 s.head,h.xc,h.xw,h.xo]
 asg:Loc (σ.at T 2) h.la [h.xa]
 vs:Own .i8 (σ.at T 3) s.vs h.xa
 lev:Own .int (σ.at T 4) s.lev h.xl
 rea:Own .int (σ.at T 5) s.rea h.xr
 trail:Own .int (σ.at T 6) s.trail h.xt
 marks:Own .int (σ.at T 7) s.marks h.xm
 cls:Own vCl (σ.at T 8) h.cs h.xc
 wat:Own vRaw (σ.at T 9) h.ws h.xw
 loose:Own .int (σ.at T 10) s.loose h.xo
 cf:Fam σ T 50 (s.cls.map (·.1)) (h.cs.map (·.1))
 cb:h.cs.map (·.2)=s.cls.map (·.2)
 wf:Fam σ T 51 s.wat h.ws
section
variable{σ τ:Heap}{T T':Tg}{lp vars:Nat}{h:PH}{s:PS}{I:Nat->Bool}
theorem PropH.hop(p:PropH σ T lp h s)(H:Hop I σ T τ T')(h1:∀j,pI j=true->I j=false):PropH τ T' lp h s:=
 ⟨p.obj.hop H (h1 _ rfl),p.asg.hop H (h1 _ rfl),p.vs.hop H (h1 _ rfl),p.lev.hop H (h1 _ rfl),p.rea.hop H (h1 _ rfl),p.trail.hop H (h1 _ rfl),p.marks.hop H (h1 _ rfl),p.cls.hop H (h1 _ rfl),p.wat.hop H (h1 _ rfl),p.loose.hop H (h1 _ rfl),
  p.cf.hop H (fun i=>h1 _ (by simp[pI])),p.cb,p.wf.hop H (fun i=>h1 _ (by simp[pI];omega))⟩
theorem PropH.hle(p:PropH σ T lp h s)(L:Hle σ τ):PropH τ T lp h s:=
 ⟨p.obj.hle L,p.asg.hle L,p.vs.hle L,p.lev.hle L,p.rea.hle L,p.trail.hle L,p.marks.hle L,p.cls.hle L,p.wat.hle L,p.loose.hle L,p.cf.hle L,p.cb,p.wf.hle L⟩
structure PLen(n:Nat)(s:PS):Prop where
 vs:s.vs.length=n
 lev:s.lev.length=n
 rea:s.rea.length=n
 wat:s.wat.length=2*n
def PS.grow(s:PS)(k:Nat):PS:={ s with vs:=s.vs++List.replicate k 0,lev:=s.lev++List.replicate k (-1),rea:=s.rea++List.replicate k (-1),wat:=s.wat++List.replicate (2*k) [] }
theorem y8l_{n:Nat}(p:PropH σ T lp h s)(hn:Tn σ T)(hL:PLen n s)(h0:1<=n)(hv:vars<=4000)(hl:n<=4001) :
  W (S.z75 (.ptr lp 0) (vars:Int) σ) fun r=>∃T' h',Hop pI σ T r.2 T'/\PropH r.2 T' lp h' (s.grow (vars+1-n)):=by
 obtain⟨k1,k2,k3,k4,k5,k6,k7,k8,k9,k10,k11,k12,k13⟩:=p;obtain⟨e1,e2,e3,e4⟩:=hL;unfold S.z75
 repeat' with_reducible first|refine W.bind ?_|refine W.asV ?_|refine W.fldp ?_|refine W.nck ?_|refine W.u0 ?_
 refine W.mono (yfe_ k2 k3 hn (by decide) hv (by omega)) fun r hr=>?_;obtain⟨r,τ⟩:=r;obtain⟨T1,xa,H,k2,k3⟩:=hr;dsimp only at H k2 k3⊢;replace k1:=k1.hop H;replace k4:=k4.hop H;replace k5:=k5.hop H;replace k6:=k6.hop H;replace k7:=k7.hop H;replace k8:=k8.hop H;replace k9:=k9.hop H;replace k10:=k10.hop H;replace k11:=k11.hop H;replace k13:=k13.hop H;replace hn:=H.tn;rw[e1]at k3;refine W.bind ?_;refine W.mono (P:=fun r=>∃T' h',Hop pI σ T r.2 T'/\PropH r.2 T' lp h' (s.grow (vars+1-n))) ?_ fun r hr=>W.ret hr;have H0:Hop pI σ T τ T1:=H.sub (fun i hi=>by simp[pI]at hi⊢;omega);refine W.loopI (m:=vars+1-n) (fun m (_:Unit) τ=>∃T' xl xr xw ws k,Hop pI σ T τ T'/\m+k=vars+1-n /\
  Loc (τ.at T' 1) lp [.ptr h.la 0,xl,xr,h.xt,h.xm,.int .i64 s.head,h.xc,xw,h.xo]/\Loc (τ.at T' 2) h.la [xa]/\Own .i8 (τ.at T' 3) (s.vs++List.replicate (vars+1-n) 0) xa/\Own .int (τ.at T' 4) (s.lev++List.replicate k (-1)) xl /\
  Own .int (τ.at T' 5) (s.rea++List.replicate k (-1)) xr/\Own .int (τ.at T' 6) s.trail h.xt/\Own .int (τ.at T' 7) s.marks h.xm/\Own vCl (τ.at T' 8) h.cs h.xc/\Own vRaw (τ.at T' 9) ws xw/\Own .int (τ.at T' 10) s.loose h.xo /\
  Fam τ T' 50 (s.cls.map (·.1)) (h.cs.map (·.1))/\Fam τ T' 51 (s.wat++List.replicate (2*k) []) ws) ⟨T1,h.xl,h.xr,h.xw,h.ws,0,H0,by omega,k1,k2,k3,by simpa using k4,by simpa using k5,k6,k7,k8,k9,k10,k11,by simpa using k13⟩ fun m _ τ hI=>?_
 obtain⟨T2,xl,xr,xw,ws,k,HH,ek,k1,k2,k3,k4,k5,k6,k7,k8,k9,k10,k11,k13⟩:=hI;have hn:=HH.tn;have hws:=k13.1;simp only[List.length_append,List.length_replicate]at hws;unfold S.z75.b0
 repeat' with_reducible first|refine W.bind ?_|refine W.asV ?_|refine W.fldp ?_|refine W.nck ?_|refine W.u0 ?_|refine W.u3 ?_
 refine W.to (y3y_ k2 k3 (by simp;omega)) ?_
 repeat' with_reducible refine W.ret ?_
 (with_reducible refine W.cnd (fun hc=>?_) (fun hc=>?_)<;>(try simp only[qq,Kd.ty]at hc)<;>(try (exfalso;omega)))
 ·repeat' with_reducible first|refine W.asV ?_|refine W.fldp ?_|refine W.nck ?_|refine W.u0 ?_
  have k1':=k1;refine W.own_push (bytes:=8) Vw.int_flat k4 hn (a:=-1) rfl (by simp;omega) (by simp;omega) fun x1 τ1 T3 k4 H1=>?_;replace HH:=HH.inP H1;replace k1:=k1.hop H1;replace k2:=k2.hop H1;replace k3:=k3.hop H1;replace k5:=k5.hop H1;replace k6:=k6.hop H1;replace k7:=k7.hop H1;replace k8:=k8.hop H1;replace k9:=k9.hop H1;replace k10:=k10.hop H1;replace k11:=k11.hop H1;replace k13:=k13.hop H1;replace hn:=H1.tn
  repeat' with_reducible first|refine W.asV ?_|refine W.chk rfl ?_|refine W.fldp ?_|refine W.nck ?_|refine W.u0 ?_
  refine W.own_push (bytes:=8) Vw.int_flat k5 hn (a:=-1) rfl (by simp;omega) (by simp;omega) fun x2 τ2 T4 k5 H2=>?_;replace HH:=HH.inP H2;replace k1:=k1.hop H2;replace k2:=k2.hop H2;replace k3:=k3.hop H2;replace k4:=k4.hop H2;replace k6:=k6.hop H2;replace k7:=k7.hop H2;replace k8:=k8.hop H2;replace k9:=k9.hop H2;replace k10:=k10.hop H2;replace k11:=k11.hop H2;replace k13:=k13.hop H2;replace hn:=H2.tn
  repeat' with_reducible first|refine W.fldp ?_|refine W.nck ?_|refine W.u4 ?_
  refine W.stT k1 hn (Nat.le_of_ble_eq_true (by rfl)) fun τ3 H3 k1 hnτ3=>?_;replace HH:=HH.inP H3;replace k2:=k2.hop H3;replace k3:=k3.hop H3;replace k4:=k4.hop H3;replace k5:=k5.hop H3;replace k6:=k6.hop H3;replace k7:=k7.hop H3;replace k8:=k8.hop H3;replace k9:=k9.hop H3;replace k10:=k10.hop H3;replace k11:=k11.hop H3;replace k13:=k13.hop H3;replace hn:=H3.tn
  repeat' with_reducible first|refine W.fldp ?_|refine W.nck ?_|refine W.u4 ?_
  refine W.stT k1 hn (Nat.le_of_ble_eq_true (by rfl)) fun τ4 H4 k1 hnτ4=>?_;replace HH:=HH.inP H4;replace k2:=k2.hop H4;replace k3:=k3.hop H4;replace k4:=k4.hop H4;replace k5:=k5.hop H4;replace k6:=k6.hop H4;replace k7:=k7.hop H4;replace k8:=k8.hop H4;replace k9:=k9.hop H4;replace k10:=k10.hop H4;replace k11:=k11.hop H4;replace k13:=k13.hop H4;replace hn:=H4.tn
  repeat' with_reducible first|refine W.asV ?_|refine W.fldp ?_|refine W.nck ?_|refine W.u0 ?_
  refine W.own_pushN (bytes:=24) k9 hn [.nils,.nils] rfl (by simp;omega) (by simp;omega) fun x3 τ5 T5 k9 H5=>?_;replace HH:=HH.inP H5;replace k1:=k1.hop H5;replace k2:=k2.hop H5;replace k3:=k3.hop H5;replace k4:=k4.hop H5;replace k5:=k5.hop H5;replace k6:=k6.hop H5;replace k7:=k7.hop H5;replace k8:=k8.hop H5;replace k10:=k10.hop H5;replace k11:=k11.hop H5;replace k13:=k13.hop H5;replace hn:=H5.tn
  repeat' with_reducible first|refine W.fldp ?_|refine W.nck ?_|refine W.u4 ?_
  refine W.stT k1 hn (Nat.le_of_ble_eq_true (by rfl)) fun τ6 H6 k1 hnτ6=>?_;replace HH:=HH.inP H6;replace k2:=k2.hop H6;replace k3:=k3.hop H6;replace k4:=k4.hop H6;replace k5:=k5.hop H6;replace k6:=k6.hop H6;replace k7:=k7.hop H6;replace k8:=k8.hop H6;replace k9:=k9.hop H6;replace k10:=k10.hop H6;replace k11:=k11.hop H6;replace k13:=k13.hop H6;replace hn:=H6.tn
  repeat' (with_reducible refine W.next ?_)
  refine⟨m-1,by simp at *;omega,_,x1,x2,x3,ws++[.nils,.nils],k+1,HH,by simp at *;omega,k1,k2,k3,?_,?_,k6,k7,k8,k9,k10,k11,?_⟩
  ·rw[List.append_assoc]at k4;rwa [List.replicate_succ']
  ·rw[List.append_assoc]at k5;rwa [List.replicate_succ']
  ·have g:=(k13.push (a:=[]) (y:=.nils) Own.nil).push (a:=[]) (y:=.nils) Own.nil
   rw[show 2*(k+1)=2*k+2 by omega,<-List.replicate_append_replicate];simpa[List.append_assoc]using g
 ·repeat' (with_reducible refine W.stop ?_)
  have:k=vars+1-n:=by simp at *;omega
  subst this;exact⟨T2,{ h with xa:=xa,xl:=xl,xr:=xr,xw:=xw,ws:=ws },HH,k1,k2,k3,k4,k5,k6,k7,k8,k9,k10,k11,k12,k13⟩
end
end
section
open Go
theorem yd4_(u:AVal):∀n:Nat,rep n [u]=List.replicate n u
 |0=>rfl
 |n+1=>by rw[rep,yd4_ u n,List.replicate_succ];rfl
theorem W.mkT{α R:Type}{Q:R->Prop}{v:Vw α}(t:Nat){σ:Heap}{T:Tg}(hn:Tn σ T){u:AVal}(a:α)(hsz:v.sz=1)(hr:∀τ,v.rel τ a [u]){n bytes:Nat}(hb:n*bytes<=70368744177664)(hb':n<=70368744177664){z:Int}(hz:z=(n:Int)){K:AVal->Heap->Option R}
  (c:∀x τ T',Hop (only t) σ T τ T'->Own v (τ.at T' t) (List.replicate n a) x->τ.next=σ.next+1->W (K x τ) Q):W (mkS σ 1 bytes [u] z z K) Q:=by
 subst hz;have e:mkS σ 1 bytes [u] (n:Int) (n:Int) K=K (.sl σ.next 0 n none) (σ.new (.cells .rw 1 (List.replicate n u))):=by
  simp only[mkS,newK];rw[if_pos ⟨by omega,by omega,by omega,by omega⟩,Int.toNat_natCast,yd4_]
 refine W.to e (c _ _ (T.upd σ.next t) (y28_ hn) (.inr ⟨σ.next,0,none,_,by simp,Nat.lt_succ_self _,at_of y14_ (by rw[yi_,if_pos rfl,hsz]),(fun k e=>by cases e),by simp[hsz],fun i b hi=>?_⟩) rfl);obtain⟨h8,h9⟩:=List.getElem?_eq_some_iff.1 hi;have h8':i<n:=by simpa using h8
 have:b=a:=by simpa using h9.symm
 subst this;rw[hsz,Nat.mul_one,Nat.zero_add,List.drop_eq_getElem_cons (by simpa using h8')];simpa using hr _
theorem W.newO{α R:Type}{Q:R->Prop}{v:Vw α}(t:Nat){σ:Heap}{T:Tg}(hn:Tn σ T){u:AVal}(a:α)(hsz:v.sz=1)(hr:∀τ,v.rel τ a [u]){K:Nat->Heap->Option R}
  (c:∀l τ T',Hop (only t) σ T τ T'->Own v (τ.at T' t) [a] (.sl l 0 1 none)->τ.next=σ.next+1->W (K l τ) Q):W (newK σ 1 [u] K) Q:=by
 refine c σ.next _ (T.upd σ.next t) (y28_ hn) (.inr ⟨σ.next,0,none,[u],rfl,Nat.lt_succ_self _,at_of y14_ (by rw[yi_,if_pos rfl,hsz]),(fun k e=>by cases e),by simp[hsz],fun i b hi=>?_⟩) rfl
 match i,hi with
 |0,hi=>cases hi;simpa[hsz]using hr _
 |i+1,hi=>simp at hi
section
variable{σ τ:Heap}{T T':Tg}{lp vars:Nat}{h:PH}{s:PS}
theorem yiy_{t u:Nat}(hn:Tn σ T)(htu:t≠u):W (S.z6 0 σ) fun r=>∃T' la xa,r.1=.ptr la 0/\Hop (fun j=>j==t||j==u) σ T r.2 T'/\Loc (r.2.at T' t) la [xa]/\Own .i8 (r.2.at T' u) [0] xa:=by
 unfold S.z6;refine W.bind ?_;refine W.to (yb6_ (v:=0) (by omega) (by omega)) ?_;refine W.ret ?_;refine W.mkT (v:=Vw.i8) u hn (0:Int) rfl (fun _=>rfl) (n:=1) (by omega) (by omega) (by rw[wrapS]<;>omega) fun x τ T1 H1 h1 hnx=>?_;replace hn:=H1.tn
 repeat' (with_reducible refine W.u4 ?_)
 refine W.newT t hn fun l τ2 T2 hl H2 h2 hnτ2=>?_;replace h1:=h1.hop H2 (by simp;omega)
 repeat' with_reducible refine W.ret ?_
 exact⟨T2,l,x,rfl,(H1.sub (fun i hi=>by simp at hi⊢;exact .inr hi)).trans (H2.sub (fun i hi=>by simp at hi⊢;exact .inl hi)),h2,h1⟩
def PS.zero:PS:=⟨[0],[-1],[-1],[],[],0,[],[[],[]],[]⟩
theorem yg6_(hn:Tn σ T):W (S.z68 0 σ) fun r=>∃T' lp h',r.1=.ptr lp 0/\Hop pI σ T r.2 T'/\PropH r.2 T' lp h' PS.zero:=by
 unfold S.z68;refine W.bind ?_;refine W.mono (yiy_ (t:=2) (u:=3) hn (by decide)) fun r hr=>?_;obtain⟨r,τ⟩:=r;obtain⟨T1,la,xa,e,H,k2,k3⟩:=hr;dsimp only at e H k2 k3⊢;subst e;have HH:Hop pI σ T τ T1:=H.sub (fun i hi=>by simp[pI]at hi⊢;omega);replace hn:=HH.tn;refine W.newO (v:=Vw.int) 4 hn (-1) rfl (fun _=>rfl) fun l1 τ1 T2 H1 k4 _=>?_;replace HH:=HH.inP H1;replace k2:=k2.hop H1;replace k3:=k3.hop H1;replace hn:=H1.tn;refine W.newO (v:=Vw.int) 5 hn (-1) rfl (fun _=>rfl) fun l2 τ2 T3 H2 k5 _=>?_;replace HH:=HH.inP H2;replace k2:=k2.hop H2;replace k3:=k3.hop H2;replace k4:=k4.hop H2;replace hn:=H2.tn;refine W.mkT (v:=vRaw) 9 hn .nils rfl (fun _=>rfl) (n:=2) (by omega) (by omega) rfl fun x τ3 T4 H3 k9 _=>?_;replace HH:=HH.inP H3;replace k2:=k2.hop H3;replace k3:=k3.hop H3;replace k4:=k4.hop H3;replace k5:=k5.hop H3;replace hn:=H3.tn
 repeat' with_reducible first|refine W.scP ?_|refine W.u4 ?_
 refine W.newT 1 hn fun l τ4 T5 hl H4 k1 hnτ4=>?_;replace HH:=HH.inP H4;replace k2:=k2.hop H4;replace k3:=k3.hop H4;replace k4:=k4.hop H4;replace k5:=k5.hop H4;replace k9:=k9.hop H4;replace hn:=H4.tn
 repeat' (with_reducible refine W.bind ?_)
 have p:PropH τ4 T5 l ⟨la,xa,.sl l1 0 1 none,.sl l2 0 1 none,.nils,.nils,.nils,x,.nils,[],[.nils,.nils]⟩ PS.zero:=
  ⟨k1,k2,k3,k4,k5,.nil,.nil,.nil,k9,.nil,.nil,rfl,(Fam.nil.push (a:=[]) (y:=.nils) Own.nil).push (a:=[]) (y:=.nils) Own.nil⟩
 refine W.mono (y8l_ (vars:=0) (n:=1) p hn ⟨rfl,rfl,rfl,rfl⟩ (by omega) (by omega) (by omega)) fun r hr=>?_;obtain⟨r,τ5⟩:=r;obtain⟨T6,h',H,p⟩:=hr
 repeat' with_reducible refine W.ret ?_
 exact⟨T6,l,h',rfl,HH.trans H,by simpa[PS.grow,PS.zero]using p⟩
end
end
section
open Go
structure HeapH(σ:Heap)(T:Tg)(lh:Nat)(xs xp xh:AVal)(sc pl hs:List Int):Prop where
 obj:Loc (σ.at T 11) lh [xs,xp,xh]
 sc:Own .int (σ.at T 12) sc xs
 pl:Own .int (σ.at T 13) pl xp
 hs:Own .int (σ.at T 14) hs xh
def hI:Nat->Bool:=fun j=>decide (11<=j)&&decide (j<=14)
theorem Hop.inH{σ0 σ τ:Heap}{T0 T T':Tg}{t:Nat}(h:Hop hI σ0 T0 σ T)(H:Hop (only t) σ T τ T')(ht:hI t=true:=by rfl):Hop hI σ0 T0 τ T':=h.trans (H.sub (fun i hi=>by
 have:i=t:=by simpa using hi
 rw[this];exact ht))
section
variable{σ τ:Heap}{T T':Tg}{lh:Nat}{xs xp xh:AVal}{sc pl hs:List Int}{I:Nat->Bool}
theorem HeapH.hop(p:HeapH σ T lh xs xp xh sc pl hs)(H:Hop I σ T τ T')(h1:∀j,hI j=true->I j=false):HeapH τ T' lh xs xp xh sc pl hs:=⟨p.obj.hop H (h1 _ rfl),p.sc.hop H (h1 _ rfl),p.pl.hop H (h1 _ rfl),p.hs.hop H (h1 _ rfl)⟩
theorem HeapH.hle(p:HeapH σ T lh xs xp xh sc pl hs)(L:Hle σ τ):HeapH τ T lh xs xp xh sc pl hs:=⟨p.obj.hle L,p.sc.hle L,p.pl.hle L,p.hs.hle L⟩
theorem y3k_(p:HeapH σ T lh xs xp xh sc pl hs)(hn:Tn σ T){k v:Nat}(hk:k<hs.length)(hv:v<pl.length)(hb:hs.length<=1000000) :
  W (S.z34 (.ptr lh 0) (k:Int) (v:Int) σ) fun r=>Hop hI σ T r.2 T/\HeapH r.2 T lh xs xp xh sc (pl.set v ((k:Int)+1)) (hs.set k (v:Int)):=by
 obtain⟨k1,k2,k3,k4⟩:=p;unfold S.z34
 repeat' with_reducible first|refine W.asV ?_|refine W.fldp ?_|refine W.nck ?_|refine W.u0 ?_
 refine W.ixO k4.slT (i:=k) hk ?_;refine W.own_setI k4 hn hk fun τ1 k4 H1 _=>?_;have HH:Hop hI σ T τ1 T:=(Hop.refl hn).inH H1;replace k1:=k1.hop H1;replace k2:=k2.hop H1;replace k3:=k3.hop H1;replace hn:=H1.tn
 repeat' with_reducible first|refine W.asV ?_|refine W.fldp ?_|refine W.nck ?_|refine W.u0 ?_
 have w:IntKind.i64.wrap ((k:Int)+1)=(k:Int)+1:=by rw[wrapS]<;>omega
 rw[w];refine W.ixO k3.slT (i:=v) hv ?_;refine W.own_setI k3 hn hv fun τ2 k3 H2 _=>?_;replace HH:=HH.inH H2;replace k1:=k1.hop H2;replace k2:=k2.hop H2;replace k4:=k4.hop H2;replace hn:=H2.tn
 repeat' with_reducible refine W.ret ?_
 exact⟨HH,k1,k2,k3,k4⟩
theorem y4v_(p:HeapH σ T lh xs xp xh sc pl hs){a b:Nat}(ha:a<sc.length)(hb:b<sc.length):W (S.z29 (.ptr lh 0) (a:Int) (b:Int) σ) fun _=>True:=by
 obtain⟨k1,k2,k3,k4⟩:=p;obtain⟨u,hu⟩:∃u,sc[a]?=some u:=⟨_,List.getElem?_eq_getElem ha⟩;obtain⟨w,hw⟩:∃w,sc[b]?=some w:=⟨_,List.getElem?_eq_getElem hb⟩;unfold S.z29
 repeat' with_reducible first|refine W.bind ?_|refine W.asV ?_|refine W.fldp ?_|refine W.nck ?_|refine W.u0 ?_|refine W.u2 ?_
 (with_reducible refine W.cnd (fun hc=>?_) (fun hc=>?_)<;>(try simp only[qq,Kd.ty]at hc)<;>(try (exfalso;omega)))
 ·repeat' with_reducible refine W.ret ?_
  trivial
 ·repeat' with_reducible first|refine W.asV ?_|refine W.fldp ?_|refine W.nck ?_|refine W.u0 ?_|refine W.u2 ?_
  (with_reducible refine W.cnd (fun hc=>?_) (fun hc=>?_)<;>(try simp only[qq,Kd.ty]at hc)<;>(try (exfalso;omega)))
  ·repeat' with_reducible refine W.ret ?_
   trivial
  ·repeat' with_reducible refine W.ret ?_
   trivial
theorem ya1_(p:HeapH σ T lh xs xp xh sc pl hs){v:Int}:S.z33 (.ptr lh 0) v σ=some (decide (0<v/\v<sc.length)):=by
 obtain⟨r,e,rfl⟩:W (S.z33 (.ptr lh 0) v σ) fun r=>r=decide (0<v/\v<sc.length):=by
  obtain⟨k1,k2,k3,k4⟩:=p;unfold S.z33
  repeat' (with_reducible refine W.bind ?_)
  (with_reducible refine W.cnd (fun h0=>?_) (fun h0=>?_)<;>(try simp only[qq,Kd.ty]at h0)<;>(try (exfalso;omega)))
  ·repeat' with_reducible first|refine W.ret ?_|refine W.asV ?_|refine W.fldp ?_|refine W.nck ?_|refine W.u0 ?_|refine W.u3 ?_
   simp;omega
  ·repeat' with_reducible refine W.ret ?_
   simp;omega
 exact e
end
end
section
open Go
structure HW(sc pl hs:List Int):Prop where
 len:pl.length=sc.length
 rng:∀(k:Nat) (v:Int),hs[k]?=some v->0<v/\v<sc.length
 at_:∀(v k:Nat),v<sc.length->(pl.getD v 0=(k:Int)+1↔hs[k]?=some (v:Int))
 nn:∀v:Nat,0<=pl.getD v 0
theorem ye_{xs:List Int}{i j:Nat}{a:Int}(hi:i<xs.length):(xs.set i a).getD j 0=if i=j then a else xs.getD j 0:=by
 rw[List.getD_eq_getElem?_getD,List.getElem?_set,List.getD_eq_getElem?_getD];by_cases e:i=j
 ·subst e;simp[hi]
 ·simp[e]
theorem yn_{xs:List Int}{i j:Nat}{a:Int}(hi:i<xs.length):(xs.set i a)[j]?=if i=j then some a else xs[j]?:=by
 rw[List.getElem?_set];by_cases e:i=j
 ·subst e;simp[hi]
 ·simp[e]
theorem HW.swap{sc pl hs:List Int}{k q v w:Nat}(hpl:pl.length=sc.length)(hv:v<sc.length)(hk:k<hs.length)(hq:q<hs.length)(hne:q≠k)(hw:hs[q]?=some (w:Int))(H:HW sc (pl.set v ((k:Int)+1)) (hs.set k (v:Int))) :
  w<sc.length/\w≠v/\HW sc ((pl.set w ((k:Int)+1)).set v ((q:Int)+1)) ((hs.set k (w:Int)).set q (v:Int)):=by
 have hne':k≠q:=fun e=>hne e.symm;have r:=H.rng q w (by rw[yn_ hk,if_neg hne'];exact hw);have hwl:w<sc.length:=by omega
 have hwv:w≠v:=fun e=>by
  have h1:=(H.at_ v k hv).2 (by rw[yn_ hk,if_pos rfl]);have h2:=(H.at_ w q hwl).2 (by rw[yn_ hk,if_neg hne'];exact hw);rw[e,h1]at h2;omega
 refine⟨hwl,hwv,by simp[hpl],fun j u hj=>?_,fun u j hu=>?_,fun u=>?_⟩
 ·rw[yn_ (by simpa using hq),yn_ hk]at hj
  split at hj
  ·cases hj
   have:=H.rng k v (by rw[yn_ hk,if_pos rfl]);exact this
  ·split at hj
   ·cases hj;exact r
   ·rename_i h1 h2
    exact H.rng j u (by rw[yn_ hk,if_neg h2];exact hj)
 ·have A:=H.at_ u j hu
  have Bw:=(H.at_ w q hwl).2 (by rw[yn_ hk,if_neg hne'];exact hw);rw[ye_ (by omega),if_neg (fun e=>hwv e.symm)]at Bw;rw[ye_ (by omega),yn_ hk]at A;rw[ye_ (by simp;omega),ye_ (by omega),yn_ (by simpa using hq),yn_ hk];by_cases e1:v=u
  ·subst e1
   rw[if_pos rfl]at A⊢;by_cases e2:q=j
   ·subst e2;simp
   ·rw[if_neg e2]
    by_cases e3:k=j
    ·subst e3
     rw[if_pos rfl];constructor
     ·intro h;omega
     ·intro h;have:=Option.some.inj h;omega
    ·rw[if_neg e3]at A⊢
     constructor
     ·intro h;omega
     ·intro h;have:=A.2 h;omega
  ·rw[if_neg e1]at A⊢
   by_cases e2:w=u
   ·subst e2
    rw[if_pos rfl];by_cases e3:q=j
    ·subst e3
     rw[if_pos rfl];constructor
     ·intro h;omega
     ·intro h;have:=Option.some.inj h;omega
    ·rw[if_neg e3]
     by_cases e4:k=j
     ·subst e4;simp
     ·rw[if_neg e4]at A⊢
      constructor
      ·intro h;omega
      ·intro h;have:=A.2 h;omega
   ·rw[if_neg e2]
    by_cases e3:q=j
    ·subst e3
     rw[if_neg hne',hw]at A;rw[if_pos rfl];constructor
     ·intro h;have:=Option.some.inj (A.1 h);omega
     ·intro h;have:=Option.some.inj h;omega
    ·rw[if_neg e3]
     by_cases e4:k=j
     ·subst e4
      rw[if_pos rfl]at A⊢;constructor
      ·intro h;have:=Option.some.inj (A.1 h);omega
      ·intro h;have:=Option.some.inj h;omega
     ·rw[if_neg e4]at A⊢;exact A
 ·rw[ye_ (by simp;omega),ye_ (by omega)]
  have:=H.nn u;rw[ye_ (by omega)]at this
  split
  ·omega
  ·split
   ·omega
   ·rename_i h1 h2
    rw[if_neg h1]at this;exact this
end
section
open Go
theorem y2v_.own{σ τ:Heap}{T:Tg}{xs:List Int}{y:AVal}(u:Nat)(h:y2v_ σ.next τ xs y)(hn:Tn σ T)(L:Hle σ τ):∃T',Hop (only u) σ T τ T'/\Own .int (τ.at T' u) xs y:=by
 rcases h with ⟨rfl,rfl⟩|⟨l,off,c,cs,rfl,h1,h2,h3,h4,h5,h6⟩
 ·exact⟨T,Hop.of hn L,.nil⟩
 ·refine⟨T.upd l u,⟨L.next,⟨fun k hk=>by rw[y1k_ (by omega)];exact hn.z k (Nat.le_trans L.next hk)⟩,fun k hk hI=>?_,fun k o hk hI hg=>?_⟩,.inr ⟨l,off,c,cs,rfl,h2,at_of y14_ h3,h4,h5,h6⟩⟩
  ·exact y1k_ (by omega)
  ·exact L.get k o hk hg
def wAt(l:Int):Nat:=if l<0 then(-2*l+1).toNat else(2*l).toNat
theorem at_eq{σ:Heap}{l:Int}(h:l.natAbs<=1000000):S.z95 l σ=some (wAt l:Int):=by
 obtain⟨r,e,rfl⟩:W (S.z95 l σ) fun r=>r=(wAt l:Int):=by
  unfold S.z95 wAt
  (with_reducible refine W.cnd (fun hl=>?_) (fun hl=>?_)<;>(try simp only[qq,Kd.ty]at hl)<;>(try (exfalso;omega)))
  ·repeat' with_reducible refine W.ret ?_
   have w:IntKind.i64.wrap (-2*l) = -2*l:=by rw[wrapS]<;>omega
   rw[if_pos hl,w,wrapS]<;>omega
  ·repeat' with_reducible refine W.ret ?_
   rw[if_neg (by omega),wrapS]<;>omega
 exact e
section
variable{σ τ:Heap}{T T':Tg}{lp vars:Nat}{h:PH}{s:PS}
theorem PropH.clen(p:PropH σ T lp h s):h.cs.length=s.cls.length:=by have:=congrArg List.length p.cb;simpa using this
theorem PropH.cget(p:PropH σ T lp h s){id:Nat}{c:List Int}{b f:Bool}(hi:s.cls[id]?=some (c,b,f)):∃y,h.cs[id]?=some (y,b,f)/\Own .int (σ.at T (50+2*id)) c y:=by
 have hlt:=(List.getElem?_eq_some_iff.1 hi).1;obtain⟨z,hz⟩:∃z,h.cs[id]?=some z:=⟨_,List.getElem?_eq_getElem (by rw[p.clen];exact hlt)⟩;have h1:(h.cs.map (·.2))[id]?=some z.2:=by rw[List.getElem?_map,hz];rfl
 rw[p.cb,List.getElem?_map,hi]at h1;have h2:z.2=(b,f):=by simpa using h1.symm
 refine⟨z.1,by rw[hz];congr 1;exact Prod.ext rfl h2,p.cf.2 id c z.1 (by rw[List.getElem?_map,hi];rfl) (by rw[List.getElem?_map,hz];rfl)⟩
def PS.look(s:PS)(id:Nat):PS:=match s.cls[id]? with
 |some (l,b,false)=>{ s with cls:=s.cls.set id (l,b,true),loose:=s.loose++[(id:Int)] }
 |_=>s
theorem y1e_{α β:Type}{f:α->β}{xs:List α}{i:Nat}{a b:α}(h:xs[i]?=some a)(e:f b=f a):(xs.set i b).map f=xs.map f:=by
 obtain⟨hlt,h⟩:=List.getElem?_eq_some_iff.1 h;rw[List.map_set,e,<-h,<-List.getElem_map f (h:=by simpa using hlt),List.set_getElem_self]
theorem y5q_(p:PropH σ T lp h s)(hn:Tn σ T){id:Nat}(hi:id<s.cls.length)(hb:s.loose.length<=8700000000000)(hb2:s.cls.length<=1010000000000) :
  W (S.z89 (.ptr lp 0) (id:Int) σ) fun r=>∃T' h',Hop pI σ T r.2 T'/\PropH r.2 T' lp h' (s.look id):=by
 obtain⟨⟨c,b,f⟩,hc⟩:∃z,s.cls[id]?=some z:=⟨_,List.getElem?_eq_getElem hi⟩;obtain⟨y,hy,hO⟩:=p.cget hc;have hcl:=p.clen;have hll:PS.look s id=(bif f then s else { s with cls:=s.cls.set id (c,b,true),loose:=s.loose++[(id:Int)] }):=by
  unfold PS.look;rw[hc];cases f<;>rfl
 rw[hll];have p0:=p;obtain⟨k1,k2,k3,k4,k5,k6,k7,k8,k9,k10,k11,k12,k13⟩:=p;unfold S.z89
 repeat' with_reducible first|refine W.asV ?_|refine W.fldp ?_|refine W.nck ?_|refine W.u0 ?_
 refine W.ixO k8.slT (i:=id) (by omega) ?_;refine W.fldO k8.slT (i:=id) (k:=0) (j:=2) (by omega) ?_;refine W.ldO k8.slT hy (u:=.bool f) (fun us h=>by rw[show us=[y,.bool b,.bool f]from h];rfl) ?_
 repeat' (with_reducible refine W.asB ?_)
 cases f with
 |true=>
  refine W.condF rfl ?_
  repeat' with_reducible refine W.ret ?_
  exact⟨T,h,Hop.refl hn,p0⟩
 | false=>
  refine W.condT rfl ?_
  repeat' with_reducible first|refine W.asV ?_|refine W.fldp ?_|refine W.nck ?_|refine W.u0 ?_
  refine W.ixO k8.slT (i:=id) (by omega) ?_;refine W.fldO k8.slT (i:=id) (k:=0) (j:=2) (by omega) ?_;refine W.own_set y5t_ k8 hn hy (k:=2) [y,.bool b,.bool false] (y,b,true) (by decide) (fun bs h=>h) (fun _=>rfl) fun τ1 k8 H1 _=>?_;have HH:Hop pI σ T τ1 T:=(Hop.refl hn).inP H1;replace k1:=k1.hop H1;replace k2:=k2.hop H1;replace k3:=k3.hop H1;replace k4:=k4.hop H1;replace k5:=k5.hop H1;replace k6:=k6.hop H1;replace k7:=k7.hop H1;replace k9:=k9.hop H1;replace k10:=k10.hop H1;replace k11:=k11.hop H1;replace k13:=k13.hop H1;replace hn:=H1.tn
  repeat' with_reducible first|refine W.asV ?_|refine W.fldp ?_|refine W.nck ?_|refine W.u0 ?_
  refine W.own_push (bytes:=8) Vw.int_flat k10 hn (a:=(id:Int)) rfl (by omega) (by omega) fun x2 τ2 T2 k10 H2=>?_;replace HH:=HH.inP H2;replace k1:=k1.hop H2;replace k2:=k2.hop H2;replace k3:=k3.hop H2;replace k4:=k4.hop H2;replace k5:=k5.hop H2;replace k6:=k6.hop H2;replace k7:=k7.hop H2;replace k8:=k8.hop H2;replace k9:=k9.hop H2;replace k11:=k11.hop H2;replace k13:=k13.hop H2;replace hn:=H2.tn
  repeat' with_reducible first|refine W.fldp ?_|refine W.nck ?_|refine W.u4 ?_
  refine W.stT k1 hn (Nat.le_of_ble_eq_true (by rfl)) fun τ3 H3 k1 hnτ3=>?_;replace HH:=HH.inP H3;replace k2:=k2.hop H3;replace k3:=k3.hop H3;replace k4:=k4.hop H3;replace k5:=k5.hop H3;replace k6:=k6.hop H3;replace k7:=k7.hop H3;replace k8:=k8.hop H3;replace k9:=k9.hop H3;replace k10:=k10.hop H3;replace k11:=k11.hop H3;replace k13:=k13.hop H3;replace hn:=H3.tn
  repeat' with_reducible refine W.ret ?_
  refine⟨T2,{ h with xo:=x2,cs:=h.cs.set id (y,b,true) },HH,k1,k2,k3,k4,k5,k6,k7,k8,k9,k10,?_,?_,k13⟩
  ·show Fam τ3 T2 50 ((s.cls.set id (c,b,true)).map (·.1)) ((h.cs.set id (y,b,true)).map (·.1))
   rw[y1e_ (f:=(·.1)) (b:=(c,b,true)) hc rfl,y1e_ (f:=(·.1)) (b:=(y,b,true)) hy rfl];exact k11
  ·show(h.cs.set id (y,b,true)).map (·.2)=(s.cls.set id (c,b,true)).map (·.2)
   rw[List.map_set,List.map_set,k12]
end
end
section
open Go
section
variable{σ τ:Heap}{T T':Tg}{lp l1 n:Nat}{h:PH}{s:PS}
theorem ycy_(p:PropH σ T lp h s)(hL:s.vs.length=n+1)(hn:n<=4000)(hl:Loc (σ.at T 0) l1 [.ptr lp 0]){x:Int}(hx:inB x=true):S.z70 x (.ptr l1 0) σ=some (!isL x n):=by
 obtain⟨r,e,rfl⟩:W (S.z70 x (.ptr l1 0) σ) fun r=>r = !isL x n:=by
  have k1:=p.obj;have k2:=p.asg;have k3:=p.vs;simp only[inB,Bool.and_eq_true,decide_eq_true_eq]at hx;unfold S.z70
  repeat' with_reducible first|refine W.bind ?_|refine W.asV ?_|refine W.fldp ?_|refine W.nck ?_|refine W.u0 ?_
  refine W.to (y3y_ k2 k3 (by omega)) ?_
  repeat' with_reducible first|refine W.ret ?_|refine W.bind ?_
  rw[show(s.vs.length:Int)-1=(n:Int) by omega];refine W.to (y1o_ (by omega) (by omega)) ?_
  repeat' with_reducible refine W.ret ?_
  rfl
 exact e
def PS.watch(s:PS)(l:Int)(id:Nat):PS:={ s with wat:=s.wat.set (wAt l) (s.wat.getD (wAt l) []++[(id:Int)]) }
theorem yig_(p:PropH σ T lp h s)(hn:Tn σ T)(hl:Loc (σ.at T 0) l1 [.ptr lp 0]){y:AVal}{c:List Int}{id u:Nat}(hy:SlV .int (σ.at T u) c y)(hu:∀k,u≠51+2*k)(hu9:u≠9)(hc:∀l∈c,wAt l<s.wat.length/\l.natAbs<=1000000)(hcl:c.length<=10)(hb:∀w∈s.wat,w.length+10<=8700000000000) :
  W (loopW (S.z69.b0 (.ptr l1 0) (id:Int) y (c.length:Int)) 0 σ) fun r=>∃T' h',Hop pI σ T r.2 T'/\PropH r.2 T' lp h' (c.foldl (fun s l=>s.watch l id) s):=by
 refine W.loop c.length (fun i (z:Int) τ=>z=(i:Int)/\∃T' h',Hop pI σ T τ T'/\Loc (τ.at T' 0) l1 [.ptr lp 0]/\SlV .int (τ.at T' u) c y/\PropH τ T' lp h' ((c.take i).foldl (fun s l=>s.watch l id) s)/\((c.take i).foldl (fun s l=>s.watch l id) s).wat.length=s.wat.length /\
  ∀w∈((c.take i).foldl (fun s l=>s.watch l id) s).wat,w.length+10<=8700000000000+i) ⟨rfl,T,h,Hop.refl hn,hl,hy,p,rfl,hb⟩ fun i z τ hi hI=>?_
 obtain⟨rfl,T1,h1,HH,hl,hy,p,hwl,hwb⟩:=hI;have hn:=HH.tn;unfold S.z69.b0
 (with_reducible refine W.cnd (fun hlt=>?_) (fun hlt=>?_)<;>(try simp only[qq,Kd.ty]at hlt)<;>(try (exfalso;omega)))
 ·obtain⟨a,ha⟩:∃a,c[i]?=some a:=⟨_,List.getElem?_eq_getElem (by omega)⟩
  obtain⟨hw,hab⟩:=hc a (List.mem_of_getElem? ha);have ht:c.take (i+1)=c.take i++[a]:=by rw[List.take_add_one,ha];rfl
  rw[ht,List.foldl_append];generalize (c.take i).foldl (fun s l=>s.watch l id) s=s1 at p hwl hwb⊢;obtain⟨xs,z,hx,hz,hO⟩:=p.wf.get (k:=wAt a) (by omega);have hmx:=hwb xs (List.mem_of_getElem? hx);have hgd:s1.wat.getD (wAt a) []=xs:=by rw[List.getD_eq_getElem?_getD,hx];rfl
  have hlw:=p.wf.1;obtain⟨k1,k2,k3,k4,k5,k6,k7,k8,k9,k10,k11,k12,k13⟩:=p;have k9':=k9
  repeat' with_reducible first|refine W.bind ?_|refine W.asV ?_|refine W.fldp ?_|refine W.nck ?_|refine W.u0 ?_|refine W.ixIc (SlV.up (by assumption)) (by assumption) ?_
  refine W.to (at_eq hab) ?_
  repeat' with_reducible first|refine W.ret ?_|refine W.bind ?_|refine W.asV ?_|refine W.fldp ?_|refine W.nck ?_|refine W.u0 ?_
  refine W.to (at_eq hab) ?_
  repeat' with_reducible refine W.ret ?_
  refine W.ixV k9.slT hz ?_
  skip
  refine W.own_push (bytes:=8) Vw.int_flat hO hn (a:=(id:Int)) rfl (by omega) (by omega) fun x2 τ2 T2 hO H2=>?_;replace HH:=HH.inP H2 (by simp[pI];omega);replace hl:=hl.hop H2 (by simp;omega);replace hy:=hy.hop H2 (by have:=hu (wAt a);simp;omega);replace k1:=k1.hop H2 (by simp;omega);replace k2:=k2.hop H2 (by simp;omega);replace k3:=k3.hop H2 (by simp;omega);replace k4:=k4.hop H2 (by simp;omega);replace k5:=k5.hop H2 (by simp;omega);replace k6:=k6.hop H2 (by simp;omega);replace k7:=k7.hop H2 (by simp;omega);replace k8:=k8.hop H2 (by simp;omega);replace k9:=k9.hop H2 (by simp;omega);replace k10:=k10.hop H2 (by simp;omega);replace k11:=k11.hop H2 (by intro i;simp;omega);replace k13:=k13.hopAt H2 hO;replace hn:=H2.tn
  repeat' with_reducible first|refine W.asV ?_|refine W.chk rfl ?_|refine W.u0 ?_
  refine W.ixO k9.slT (i:=wAt a) (by omega) ?_
  repeat' (with_reducible refine W.u4 ?_)
  refine W.own_setV k9 hn (a:=x2) (by omega) fun τ3 k9 H3 _=>?_;replace HH:=HH.inP H3;replace hy:=hy.hop H3 (by simp;exact hu9);replace hl:=hl.hop H3;replace k1:=k1.hop H3;replace k2:=k2.hop H3;replace k3:=k3.hop H3;replace k4:=k4.hop H3;replace k5:=k5.hop H3;replace k6:=k6.hop H3;replace k7:=k7.hop H3;replace k8:=k8.hop H3;replace k10:=k10.hop H3;replace k11:=k11.hop H3;replace k13:=k13.hop H3;replace hn:=H3.tn
  repeat' (with_reducible refine W.next ?_)
  refine⟨by omega,sk,T2,{ h1 with ws:=h1.ws.set (wAt a) x2 },HH,hl,hy,?_,?_,fun w hw2=>?_⟩
  ·simp only[List.foldl_cons,List.foldl_nil,PS.watch,hgd]
   exact⟨k1,k2,k3,k4,k5,k6,k7,k8,k9,k10,k11,k12,k13⟩
  ·simp[PS.watch,hwl]
  ·simp only[List.foldl_cons,List.foldl_nil,PS.watch,hgd]at hw2
   rcases List.mem_or_eq_of_mem_set hw2 with e|e
   ·have:=hwb w e;omega
   ·rw[e];simp;omega
 ·repeat' (with_reducible refine W.stop ?_)
  rw[List.take_of_length_le (by omega)]at p;exact⟨T1,h1,HH,p⟩
theorem Fam.hopLt{b:Nat}{xs:List (List Int)}{ws:List AVal}{I:Nat->Bool}(h:Fam σ T b xs ws)(H:Hop I σ T τ T')(hI:∀i,i<xs.length->I (b+2*i)=false):Fam τ T' b xs ws:=⟨h.1,fun i a y h1 h2=>(h.2 i a y h1 h2).hop H (hI i (List.getElem?_eq_some_iff.1 h1).1)⟩
theorem PropH.hopNew(p:PropH σ T lp h s)(H:Hop (only (50+2*s.cls.length)) σ T τ T'):PropH τ T' lp h s:=
 ⟨p.obj.hop H (by simp;omega),p.asg.hop H (by simp;omega),p.vs.hop H (by simp;omega),p.lev.hop H (by simp;omega),p.rea.hop H (by simp;omega),p.trail.hop H (by simp;omega),p.marks.hop H (by simp;omega),p.cls.hop H (by simp;omega),p.wat.hop H (by simp;omega),p.loose.hop H (by simp;omega),
  p.cf.hopLt H (fun i hi=>by simp at hi⊢;omega),p.cb,p.wf.hop H (by intro i;simp;omega)⟩
def PS.add(s:PS)(l:List Int):PS:=((if 1<l.length then l.take 2 else[]).foldl (fun(q:PS) x=>q.watch x s.cls.length) { s with cls:=s.cls++[(l,true,false)] }).look s.cls.length
theorem y9i_(id:Nat):∀(l:List Int) (s:PS),(l.foldl (fun(q:PS) x=>q.watch x id) s).cls=s.cls/\(l.foldl (fun(q:PS) x=>q.watch x id) s).loose=s.loose
 |[],s=>⟨rfl,rfl⟩
 |a::l,s=>by have:=y9i_ id l (s.watch a id);exact this
def y2f_(n:Nat)(c:List Int):Bool:=!saysN c||(normL c).any fun l => !isL l n
theorem yaj_(p:PropH σ T lp h s)(hn:Tn σ T)(hL:PLen (n+1) s)(hv:n<=4000){c:List Int}{x:AVal}{u:Nat}(hx:SlV .int (σ.at T u) c x)(hin:c.all inB=true)(hcl:c.length<=1000000)(hb:s.loose.length<=8700000000000)(hb2:s.cls.length<=1000000000000)
  (hwb:∀w∈s.wat,w.length+10<=8700000000000) :
  W (S.z69 (.ptr lp 0) x σ) fun r=>∃T' h',Hop pI σ T r.2 T'/\((y2f_ n c=true/\r.1=(0,false)/\PropH r.2 T' lp h' s)\/(y2f_ n c=false/\r.1=((s.cls.length:Int),true)/\PropH r.2 T' lp h' (s.add (normL c)))):=by
 unfold S.z69;refine W.scP ?_;refine W.new0 hn fun l1 τ1 _ L1 hl hn1=>?_;replace p:=p.hle L1;replace hx:=hx.hle L1;have HH:Hop pI σ T τ1 T:=Hop.of hn L1;refine W.bind ?_;refine W.mono (yi6_ hx.up hin hcl) fun r hr=>?_;obtain⟨⟨z,says⟩,τ2⟩:=r;obtain⟨e,L2,hF⟩:=hr;dsimp only at e L2 hF⊢;subst e;obtain⟨T2,H2,hZ⟩:=hF.own (50+2*s.cls.length) hn1 L2;have p2:=p.hopNew H2;replace hl:=hl.hop H2 (by simp;omega);replace HH:=HH.inP H2 (by simp[pI]);have hn2:=H2.tn;have hnl:=yb1_ c;have hnin:∀l∈normL c,inB l=true:=fun l hl=>List.all_eq_true.1 hin l (yd_.1 hl);refine W.bind ?_;refine W.mono (P:=fun r=>r=(y2f_ n c,τ2)) ?_ fun r hr=>?_
 ·unfold y2f_
  cases hs:saysN c with
  |false=>
   refine W.condT rfl ?_
   repeat' with_reducible refine W.ret ?_
   rfl
  | true=>
   refine W.condF rfl ?_;refine W.bind ?_;refine W.mono (y1f_ (fun l => !isL l n) hZ.slT (by omega) fun l hl2 Rt K=>?_) fun r hr=>?_
   ·show((S.z70 l (.ptr l1 0) τ2).bind fun x=>K (retV [.B] x) τ2)=_
    rw[ycy_ p2 hL.vs hv hl (hnin l hl2)];rfl
   ·subst hr
    repeat' with_reducible refine W.ret ?_
    rfl
 subst hr;cases hbad:y2f_ n c with
 |true=>
  refine W.condT rfl ?_
  repeat' with_reducible refine W.ret ?_
  exact⟨T2,h,HH,.inl ⟨rfl,rfl,p2⟩⟩
 | false=>
  refine W.condF rfl ?_;have hall:∀l∈normL c,isL l n=true:=fun l hl2=>by
   unfold y2f_ at hbad;simp only[Bool.or_eq_false_iff,List.any_eq_false]at hbad;simpa using hbad.2 l hl2
  obtain⟨e1,e2,e3,e4⟩:=hL;obtain⟨k1,k2,k3,k4,k5,k6,k7,k8,k9,k10,k11,k12,k13⟩:=p2;have hcl2:h.cs.length=s.cls.length:=by have:=congrArg List.length k12;simpa using this
  have hn:=hn2
  repeat' with_reducible first|refine W.asV ?_|refine W.fldp ?_|refine W.nck ?_|refine W.u0 ?_|refine W.u3 ?_|refine W.u4 ?_
  refine W.own_push (bytes:=32) y5t_ k8 hn (a:=(z,true,false)) rfl (by omega) (by omega) fun x2 τ3 T3 k8 H3=>?_;replace HH:=HH.inP H3;replace hZ:=hZ.hop H3 (by simp;omega);replace hl:=hl.hop H3;replace k1:=k1.hop H3;replace k2:=k2.hop H3;replace k3:=k3.hop H3;replace k4:=k4.hop H3;replace k5:=k5.hop H3;replace k6:=k6.hop H3;replace k7:=k7.hop H3;replace k9:=k9.hop H3;replace k10:=k10.hop H3;replace k11:=k11.hop H3;replace k13:=k13.hop H3;replace hn:=H3.tn
  repeat' with_reducible first|refine W.asV ?_|refine W.chk rfl ?_|refine W.fldp ?_|refine W.nck ?_|refine W.u0 ?_|refine W.u4 ?_
  refine W.stT k1 hn (Nat.le_of_ble_eq_true (by rfl)) fun τ4 H4 k1 hnτ4=>?_;replace HH:=HH.inP H4;replace hZ:=hZ.hop H4 (by simp;omega);replace hl:=hl.hop H4;replace k2:=k2.hop H4;replace k3:=k3.hop H4;replace k4:=k4.hop H4;replace k5:=k5.hop H4;replace k6:=k6.hop H4;replace k7:=k7.hop H4;replace k8:=k8.hop H4;replace k9:=k9.hop H4;replace k10:=k10.hop H4;replace k11:=k11.hop H4;replace k13:=k13.hop H4;replace hn:=H4.tn;have p4:PropH τ4 T3 lp { h with xc:=x2,cs:=h.cs++[(z,true,false)] } { s with cls:=s.cls++[(normL c,true,false)] }:=
   ⟨k1,k2,k3,k4,k5,k6,k7,k8,k9,k10,by
    show Fam τ4 T3 50 ((s.cls++[(normL c,true,false)]).map (·.1)) ((h.cs++[(z,true,false)]).map (·.1));rw[List.map_append,List.map_append];exact k11.push (by simpa using hZ),by
    show(h.cs++[(z,true,false)]).map (·.2)=(s.cls++[(normL c,true,false)]).map (·.2);rw[List.map_append,List.map_append,k12];rfl,k13⟩
  repeat' with_reducible first|refine W.bind ?_|refine W.u3 ?_
  rw[hcl2];refine W.mono (P:=fun r=>∃T' h',Hop pI τ4 T3 r.2 T'/\PropH r.2 T' lp h' ((if 1<(normL c).length then(normL c).take 2 else[]).foldl (fun(q:PS) x=>q.watch x s.cls.length) { s with cls:=s.cls++[(normL c,true,false)] })) ?_ fun r hr=>?_
  ·(with_reducible refine W.cnd (fun hlen=>?_) (fun hlen=>?_)<;>(try simp only[qq,Kd.ty]at hlen)<;>(try (exfalso;omega)))
   ·rw[if_pos (by omega)]
    obtain⟨y2,e5,hy2⟩:=hZ.slice (lo:=0) (hi:=2) (by omega) (by omega);rw[List.drop_zero]at hy2;refine W.to ((e5 (at_le (σ:=τ4) (T:=T3) (i:=50+2*s.cls.length)) _).1) ?_
    repeat' with_reducible first|refine W.bind ?_|refine W.u3 ?_
    refine W.mono (yig_ p4 hn hl (id:=s.cls.length) (u:=50+2*s.cls.length) hy2.sl (fun k=>by omega) (by omega) (fun l hl2=>?_) (by simp;omega) hwb) fun r hr=>W.ret hr;have:=ym_.1 (hall l (List.mem_of_mem_take hl2));refine⟨?_,by omega⟩;show wAt l<s.wat.length;unfold wAt;rw[e4]
    split<;>omega
   ·rw[if_neg (by omega)]
    repeat' with_reducible refine W.ret ?_
    exact⟨T3,_,Hop.refl hn,p4⟩
  ·obtain⟨r,τ5⟩:=r
   obtain⟨T5,h5,H5,p5⟩:=hr;dsimp only at H5 p5⊢;replace hl:=hl.hop H5
   repeat' with_reducible first|refine W.bind ?_|refine W.asV ?_|refine W.u0 ?_
   obtain⟨q1,q2⟩:=y9i_ s.cls.length (if 1<(normL c).length then(normL c).take 2 else[]) { s with cls:=s.cls++[(normL c,true,false)] };refine W.mono (y5q_ p5 H5.tn (id:=s.cls.length) (by rw[q1];simp) (by rw[q2];show s.loose.length<=_;omega) (by rw[q1];simp;omega)) fun r hr=>?_;obtain⟨r,τ6⟩:=r;obtain⟨T6,h6,H6,p6⟩:=hr
   repeat' with_reducible refine W.ret ?_
   exact⟨T6,h6,(HH.trans H5).trans H6,.inr ⟨rfl,rfl,p6⟩⟩
end
end
section
open Go
def PS.lv(s:PS)(l:Int):Int:=s.lev.getD l.natAbs 0
def PS.re(s:PS)(l:Int):Int:=s.rea.getD l.natAbs 0
def PS.setL(s:PS)(l r:Int):PS:={ s with vs:=setV s.vs l,lev:=s.lev.set l.natAbs s.marks.length,rea:=s.rea.set l.natAbs r,trail:=s.trail++[l] }
def PS.dec(s:PS)(l:Int):PS:={ s with marks:=s.marks++[(s.trail.length:Int)] }.setL l (-1)
def PS.Rs(s:PS)(i:Nat)(l:Int):Prop:=(s.re l = -1/\∃k:Nat,s.lv l=(k:Int)+1/\s.marks[k]?=some (i:Int)) \/
 ∃(id:Nat) (c:List Int) (f:Bool),s.re l=id/\s.cls[id]?=some (c,true,f)/\l∈c/\∀x∈c,x≠l->∃j,j<i/\s.trail[j]?=some (-x)
structure TrI(n:Nat)(s:PS):Prop where
 len:PLen (n+1) s
 ok:Vok s.vs
 rng:∀l∈s.trail,isL l n=true
 tr:∀l,val s.vs l=1↔l∈s.trail
 nd:s.trail.Nodup
 lv:∀l∈s.trail,0<=s.lv l/\s.lv l<=s.marks.length
 mks:∀(k:Nat) m,s.marks[k]?=some m->∃a:Nat,m=a/\(∃l,s.trail[a]?=some l/\s.lv l=(k:Int)+1)/\∀i l,s.trail[i]?=some l->(a<=i↔(k:Int)<s.lv l)
 rs:∀i l,s.trail[i]?=some l->s.Rs i l
def ClI(n:Nat)(s:PS):Prop:=∀(id:Nat) c f,s.cls[id]?=some (c,true,f)->(∀l∈c,isL l n=true)/\(c.map Int.natAbs).Nodup
theorem yb_{l:Int}{n:Nat}(h:isL l n=true):l≠0/\l.natAbs<=n:=by
 obtain⟨h1,h2,h3⟩:=ym_.1 h;exact⟨h1,by omega⟩
theorem y6z_{l:Int}{n:Nat}(h:isL l n=true):isL (-l) n=true:=by
 obtain⟨h1,h2,h3⟩:=ym_.1 h;exact ym_.2 ⟨by omega,by omega,by omega⟩
theorem getD_set'{α:Type}{xs:List α}{i j:Nat}{a d:α}(hi:i<xs.length):(xs.set i a).getD j d=if j=i then a else xs.getD j d:=by
 rw[List.getD_eq_getElem?_getD,List.getElem?_set,List.getD_eq_getElem?_getD];by_cases e:i=j
 ·subst e;simp[hi]
 ·rw[if_neg e,if_neg (fun h=>e h.symm)]
theorem y2_{α:Type}{xs:List α}{i:Nat}{a:α}(h:xs[i]?=some a):i<xs.length:=(List.getElem?_eq_some_iff.1 h).1
theorem y3_{α:Type}{xs:List α}{i:Nat}(h:i<xs.length):∃a:α,xs[i]?=some a:=⟨_,List.getElem?_eq_getElem h⟩
theorem y9_{α:Type}{xs:List α}{a:α}(h:a∈xs):∃i:Nat,xs[i]?=some a:=by
 obtain⟨i,hi,e⟩:=List.getElem_of_mem h;exact⟨i,by rw[List.getElem?_eq_getElem hi,e]⟩
theorem nd_ix{α:Type}{xs:List α}(h:xs.Nodup){i j:Nat}{a:α}(h1:xs[i]?=some a)(h2:xs[j]?=some a):i=j:=
 (List.getElem?_inj (y2_ h1) h).1 (by rw[h1,h2])
section
variable{n:Nat}{s s':PS}{l x y:Int}
theorem TrI.neg(h:TrI n s):val s.vs l=2↔-l∈s.trail:=by
 rw[<-h.tr,y75_ h.ok];have:=y4c_ h.ok l
 split<;>omega
theorem TrI.notBoth(h:TrI n s)(h1:l∈s.trail)(h2 : -l∈s.trail):False:=by
 rw[<-h.tr]at h1;rw[<-h.neg]at h2;omega
theorem TrI.zero(h:TrI n s):val s.vs l=0↔l∉s.trail/\-l∉s.trail:=by
 rw[<-h.tr,<-h.neg];have:=y4c_ h.ok l;omega
theorem PS.lv_neg(s:PS)(l:Int):s.lv (-l)=s.lv l:=by simp[PS.lv]
theorem TrI.abs(h:TrI n s)(hx:x∈s.trail)(hy:y∈s.trail)(e:x.natAbs=y.natAbs):x=y:=by
 rcases Int.natAbs_eq_natAbs_iff.1 e with e|e
 ·exact e
 ·exfalso;rw[e]at hx;exact h.notBoth hy hx
theorem TrI.mono(h:TrI n s){i j:Nat}(hij:i<=j)(hx:s.trail[i]?=some x)(hy:s.trail[j]?=some y):s.lv x<=s.lv y:=by
 refine Int.not_lt.1 fun hlt=>?_;have h1:=h.lv x (List.mem_of_getElem? hx);have h2:=h.lv y (List.mem_of_getElem? hy);obtain⟨m,hm⟩:=y3_ (xs:=s.marks) (i:=(s.lv y).toNat) (by omega);obtain⟨a,_,_,h3⟩:=h.mks _ m hm;have h4:=(h3 i x hx).2 (by omega);have h5:=(h3 j y hy).1 (by omega);omega
def CEq(s s':PS):Prop:=s'.cls.length=s.cls.length/\∀(id:Nat) a b,s.cls[id]?=some a->s'.cls[id]?=some b->b.2.1=a.2.1/\b.1.Perm a.1
theorem CEq.refl(s:PS):CEq s s:=⟨rfl,fun id a b h1 h2=>by rw[h1]at h2;cases h2;exact⟨rfl,.refl _⟩⟩
theorem CEq.trans{s1 s2 s3:PS}(h:CEq s1 s2)(k:CEq s2 s3):CEq s1 s3:=⟨k.1.trans h.1,fun id a b h1 h2=>by
 obtain⟨c,hc⟩:=y3_ (xs:=s2.cls) (i:=id) (by rw[h.1];exact y2_ h1);obtain⟨e1,p1⟩:=h.2 id a c h1 hc;obtain⟨e2,p2⟩:=k.2 id c b hc h2;exact⟨e2.trans e1,p2.trans p1⟩⟩
theorem CEq.get(h:CEq s s'){id:Nat}{c:List Int}{b f:Bool}(hc:s.cls[id]?=some (c,b,f)):∃c' f',s'.cls[id]?=some (c',b,f')/\c'.Perm c:=by
 obtain⟨⟨c',b',f'⟩,h2⟩:=y3_ (xs:=s'.cls) (i:=id) (by rw[h.1];exact y2_ hc);obtain⟨e,p⟩:=h.2 id _ _ hc h2;dsimp only at e p;subst e;exact⟨c',f',h2,p⟩
theorem CEq.symm(h:CEq s s'):CEq s' s:=⟨h.1.symm,fun id a b h1 h2=>by
 obtain⟨e,p⟩:=h.2 id b a h2 h1;exact⟨e.symm,p.symm⟩⟩
theorem CEq.put{id:Nat}{c c':List Int}{b f f':Bool}(hc:s.cls[id]?=some (c,b,f))(p:c'.Perm c):CEq s { s with cls:=s.cls.set id (c',b,f') }:=⟨by simp,fun j a d h1 h2=>by
 simp only[List.getElem?_set]at h2;by_cases e:id=j
 ·subst e
  rw[if_pos rfl,if_pos (y2_ hc)]at h2;rw[hc]at h1;cases h1;cases h2;exact⟨rfl,p⟩
 ·rw[if_neg e,h1]at h2;cases h2;exact⟨rfl,.refl _⟩⟩
theorem ClI.ceq(h:ClI n s)(k:CEq s s'):ClI n s':=fun id c f hc=>by
 obtain⟨c',f',h1,p⟩:=k.symm.get hc;obtain⟨h2,h3⟩:=h id c' f' h1;exact⟨fun l hl=>h2 l (p.mem_iff.2 hl),(p.map _).nodup_iff.1 h3⟩
theorem TrI.same(h:TrI n s)(k:CEq s s')(e1:s'.vs=s.vs)(e2:s'.lev=s.lev)(e3:s'.rea=s.rea)(e4:s'.trail=s.trail)(e5:s'.marks=s.marks)(e6:s'.wat.length=s.wat.length):TrI n s':=by
 have elv:∀l,s'.lv l=s.lv l:=fun l=>by simp[PS.lv,e2]
 have ere:∀l,s'.re l=s.re l:=fun l=>by simp[PS.re,e3]
 refine⟨⟨by rw[e1];exact h.len.vs,by rw[e2];exact h.len.lev,by rw[e3];exact h.len.rea,by rw[e6];exact h.len.wat⟩,by rw[e1];exact h.ok,by rw[e4];exact h.rng,by rw[e1,e4];exact h.tr,by rw[e4];exact h.nd,fun l hl=>?_,fun k m hm=>?_,fun i l hl=>?_⟩
 ·rw[e4]at hl;rw[elv,e5];exact h.lv l hl
 ·rw[e5]at hm
  obtain⟨a,h1,h2,h3⟩:=h.mks k m hm;refine⟨a,h1,?_,fun i l hl=>?_⟩
  ·obtain⟨l,h4,h5⟩:=h2
   exact⟨l,by rw[e4];exact h4,by rw[elv];exact h5⟩
  ·rw[e4]at hl;rw[elv];exact h3 i l hl
 ·rw[e4]at hl
  rcases h.rs i l hl with ⟨h1,k',h2,h3⟩|⟨id,c,f,h1,h2,h3,h4⟩
  ·exact .inl ⟨by rw[ere];exact h1,k',by rw[elv];exact h2,by rw[e5];exact h3⟩
  ·obtain⟨c',f',h5,p⟩:=k.get h2
   exact .inr ⟨id,c',f',by rw[ere];exact h1,h5,p.mem_iff.2 h3,fun x hx hne=>by rw[e4];exact h4 x (p.mem_iff.1 hx) hne⟩
theorem TrI.push(h:TrI n s)(M:List Int)(hM:M=s.marks\/M=s.marks++[(s.trail.length:Int)])(hl:isL l n=true)(hv:val s.vs l=0){r:Int}(hs':s'={ s with marks:=M }.setL l r)
  (hr:s'.Rs s.trail.length l):TrI n s'/\∀x,x.natAbs≠l.natAbs->s'.lv x=s.lv x:=by
 obtain⟨l0,ln⟩:=yb_ hl;obtain⟨q1,q2,q3,q4⟩:=h.len;obtain⟨z1,z2⟩:=h.zero.1 hv;have hne:∀x∈s.trail,x.natAbs≠l.natAbs:=fun x hx e=>by
  rcases Int.natAbs_eq_natAbs_iff.1 e with e|e
  ·exact z1 (e▸hx)
  ·exact z2 (e▸hx)
 have elv:∀x,x.natAbs≠l.natAbs->s'.lv x=s.lv x:=fun x hx=>by
  rw[hs'];simp only[PS.lv,PS.setL];rw[getD_set' (by omega),if_neg hx]
 have ere:∀x,x.natAbs≠l.natAbs->s'.re x=s.re x:=fun x hx=>by
  rw[hs'];simp only[PS.re,PS.setL];rw[getD_set' (by omega),if_neg hx]
 have elvl:s'.lv l=M.length:=by
  rw[hs'];simp only[PS.lv,PS.setL];rw[getD_set' (by omega),if_pos rfl]
 have etr:s'.trail=s.trail++[l]:=by rw[hs'];rfl
 have emk:s'.marks=M:=by rw[hs'];rfl
 have ecl:s'.cls=s.cls:=by rw[hs'];rfl
 have evs:s'.vs=setV s.vs l:=by rw[hs'];rfl
 have hml:s.marks.length<=M.length:=by rcases hM with e|e<;>rw[e]<;>simp
 have hold:∀i x,s'.trail[i]?=some x->(s.trail[i]?=some x/\i<s.trail.length/\x≠l/\x.natAbs≠l.natAbs)\/(i=s.trail.length/\x=l):=fun i x hi=>by
  rw[etr]at hi;rcases Nat.lt_trichotomy i s.trail.length with hlt|rfl|hlt
  ·rw[List.getElem?_append_left hlt]at hi
   have hm:=List.mem_of_getElem? hi;exact .inl ⟨hi,hlt,fun e=>z1 (e▸hm),hne x hm⟩
  ·rw[List.getElem?_append_right (Nat.le_refl _)]at hi
   simp at hi;exact .inr ⟨rfl,hi.symm⟩
  ·have:=y2_ hi
   simp at this;omega
 have hget:∀i x,s.trail[i]?=some x->s'.trail[i]?=some x:=fun i x hi=>by
  rw[etr,List.getElem?_append_left (y2_ hi)];exact hi
 refine⟨⟨⟨by rw[evs,ybu_];exact q1,by rw[hs'];simp[PS.setL,q2],by rw[hs'];simp[PS.setL,q3],by rw[hs'];exact q4⟩,by rw[evs];exact h.ok.set l,fun x hx=>?_,fun x=>?_,?_,fun x hx=>?_,fun k m hm=>?_,fun i x hx=>?_⟩,elv⟩
 ·rw[etr]at hx
  rcases List.mem_append.1 hx with hx|hx
  ·exact h.rng x hx
  ·rw[List.mem_singleton.1 hx];exact hl
 ·rw[evs,yix_ l0 (by omega),etr]
  constructor
  ·intro hx
   split at hx
   ·rename_i e;simp[e]
   ·split at hx
    ·omega
    ·exact List.mem_append.2 (.inl ((h.tr x).1 hx))
  ·intro hx
   rcases List.mem_append.1 hx with hx|hx
   ·rw[if_neg (fun e=>z1 (by rw[<-e];exact hx)),if_neg (fun e=>z2 (by rw[<-e];exact hx))];exact(h.tr x).2 hx
   ·rw[if_pos (List.mem_singleton.1 hx)]
 ·rw[etr]
  exact List.nodup_append.2 ⟨h.nd,by simp,fun x hx y hy e=>by
   rw[List.mem_singleton.1 hy]at e;exact z1 (e▸hx)⟩
 ·rw[etr]at hx;rw[emk]
  rcases List.mem_append.1 hx with hx|hx
  ·rw[elv x (hne x hx)]
   have:=h.lv x hx;omega
  ·rw[List.mem_singleton.1 hx,elvl];omega
 ·have hcase:(s.marks[k]?=some m)\/(k=s.marks.length/\m=(s.trail.length:Int)/\M.length=s.marks.length+1):=by
   rw[emk]at hm;rcases hM with e|e
   ·left;rw[e]at hm;exact hm
   ·rw[e]at hm
    rcases Nat.lt_trichotomy k s.marks.length with hlt|rfl|hlt
    ·left;rwa [List.getElem?_append_left hlt]at hm
    ·right
     rw[List.getElem?_append_right (Nat.le_refl _)]at hm;simp at hm;exact⟨rfl,hm.symm,by rw[e];simp⟩
    ·have:=y2_ hm
     simp at this;omega
  rcases hcase with hm|⟨rfl,rfl,hML⟩
  ·obtain⟨a,h1,⟨w,h2,h4⟩,h3⟩:=h.mks k m hm
   have:=y2_ hm;refine⟨a,h1,⟨w,hget _ _ h2,by rw[elv w (hne w (List.mem_of_getElem? h2))];exact h4⟩,fun i x hx=>?_⟩;rcases hold i x hx with ⟨g1,g2,g3,g4⟩|⟨rfl,rfl⟩
   ·rw[elv x g4];exact h3 i x g1
   ·rw[elvl]
    have:=y2_ h2;omega
  ·refine⟨s.trail.length,rfl,⟨l,by rw[etr];simp,by rw[elvl,hML];simp⟩,fun i x hx=>?_⟩
   rcases hold i x hx with ⟨g1,g2,g3,g4⟩|⟨rfl,rfl⟩
   ·rw[elv x g4]
    have:=h.lv x (List.mem_of_getElem? g1);omega
   ·rw[elvl,hML];omega
 ·rcases hold i x hx with ⟨g1,g2,g3,g4⟩|⟨rfl,rfl⟩
  ·rcases h.rs i x g1 with ⟨h1,k',h2,h3⟩|⟨id,c,f,h1,h2,h3,h4⟩
   ·refine .inl ⟨by rw[ere x g4];exact h1,k',by rw[elv x g4];exact h2,?_⟩
    rw[emk];rcases hM with e|e
    ·rw[e];exact h3
    ·rw[e,List.getElem?_append_left (y2_ h3)];exact h3
   ·refine .inr ⟨id,c,f,by rw[ere x g4];exact h1,by rw[ecl];exact h2,h3,fun y hy hne=>?_⟩
    obtain⟨j,hj,g⟩:=h4 y hy hne;exact⟨j,hj,hget _ _ g⟩
  ·exact hr
theorem TrI.dec(h:TrI n s)(hl:isL l n=true)(hv:val s.vs l=0):TrI n (s.dec l):=by
 have q2:=h.len.lev;have q3:=h.len.rea;have:=yb_ hl;refine(h.push _ (.inr rfl) hl hv (r:=-1) rfl (.inl ⟨?_,s.marks.length,?_,?_⟩)).1
 ·simp only[PS.re,PS.setL];rw[getD_set' (by omega),if_pos rfl]
 ·simp only[PS.lv,PS.setL];rw[getD_set' (by omega),if_pos rfl];simp
 ·simp[PS.setL]
theorem TrI.set(h:TrI n s){id:Nat}{c:List Int}{f:Bool}(hc:s.cls[id]?=some (c,true,f))(hlc:l∈c)(hl:isL l n=true)(hv:val s.vs l=0)(hf:∀x∈c,x≠l->val s.vs x=2):TrI n (s.setL l id):=by
 have q2:=h.len.lev;have q3:=h.len.rea;have:=yb_ hl;refine(h.push s.marks (.inl rfl) hl hv (r:=id) rfl (.inr ⟨id,c,f,?_,hc,hlc,fun x hx hne=>?_⟩)).1
 ·simp only[PS.re,PS.setL];rw[getD_set' (by omega),if_pos rfl]
 ·obtain⟨j,hj⟩:=y9_ (h.neg.1 (hf x hx hne))
  exact⟨j,y2_ hj,by simp only[PS.setL];rw[List.getElem?_append_left (y2_ hj)];exact hj⟩
theorem y72_(h:TrI n s)(hl:isL l n=true)(hv:val s.vs l=0){r:Int}:(∀x∈s.trail,(s.setL l r).lv x=s.lv x)/\(s.setL l r).lv l=s.marks.length:=by
 obtain⟨l0,ln⟩:=yb_ hl;have q2:=h.len.lev;obtain⟨z1,z2⟩:=h.zero.1 hv;refine⟨fun x hx=>?_,?_⟩
 ·simp only[PS.lv,PS.setL]
  rw[getD_set' (by omega),if_neg fun e=>?_];rcases Int.natAbs_eq_natAbs_iff.1 e with e|e
  ·exact z1 (e▸hx)
  ·exact z2 (e▸hx)
 ·simp only[PS.lv,PS.setL]
  rw[getD_set' (by omega),if_pos rfl]
end
end
section
open Go
def PS.rank(s:PS)(l:Int):Int:=if val s.vs l=2 then s.lv l else s.marks.length+1
structure LoI(s:PS)(P:List Int):Prop where
 nd:(P++s.loose).Nodup
 fl:∀x∈P++s.loose,∃(id:Nat) (c:List Int) (b:Bool),x=id/\s.cls[id]?=some (c,b,true)
 lf:∀(id:Nat) c b,s.cls[id]?=some (c,b,true)->(id:Int)∈P++s.loose
def WaI(s:PS)(P:Int->Int->Prop):Prop:=∀(id:Nat) c f,s.cls[id]?=some (c,true,f)->2<=c.length->∀i x,i<2->c[i]?=some x->(id:Int)∈s.wat.getD (wAt x) []\/P x id
def WaE(s:PS)(e:Int):Prop:=∃(id:Nat) (c:List Int) (b f:Bool),e=id/\s.cls[id]?=some (c,b,f)/\(b=true->2<=c.length)
def WaR(s:PS):Prop:=∀w∈s.wat,∀e∈w,WaE s e
structure JuC(s:PS)(h:Nat)(c:List Int):Prop where
 ne:c≠[]
 one:∀x,c=[x]->x∈s.trail/\s.lv x=0
 two:∀i x y,i<2->c[i]?=some x->c[1-i]?=some y->(∃j,j<h/\s.trail[j]?=some (-x))->y∈s.trail/\s.lv y<=s.lv x
def JuI(s:PS)(h:Nat):Prop:=∀(id:Nat) c,s.cls[id]?=some (c,true,false)->JuC s h c
def PS.ent(s:PS):Nat:=(s.wat.map List.length).sum
structure PEx(s s':PS):Prop where
 ceq:CEq s s'
 tr:∃e,s'.trail=s.trail++e
 lv:∀x∈s.trail,s'.lv x=s.lv x
 mks:s'.marks=s.marks
theorem PEx.refl(s:PS):PEx s s:=⟨CEq.refl s,⟨[],by simp⟩,fun _ _=>rfl,rfl⟩
theorem PEx.trans{s1 s2 s3:PS}(h:PEx s1 s2)(k:PEx s2 s3):PEx s1 s3:=by
 obtain⟨e,he⟩:=h.tr;obtain⟨d,hd⟩:=k.tr;exact⟨h.ceq.trans k.ceq,⟨e++d,by rw[hd,he,List.append_assoc]⟩,fun x hx=>by rw[k.lv x (by rw[he];simp[hx]),h.lv x hx],k.mks.trans h.mks⟩
theorem y9m_{x l:Int}(h:wAt x=wAt l):x=l:=by
 unfold wAt at h
 split at h<;>split at h<;>omega
theorem y56_{l:Int}{n:Nat}(h:isL l n=true):wAt l<2*(n+1):=by
 have:=ym_.1 h;unfold wAt
 split<;>omega
section
variable{n h id:Nat}{s s':PS}{l x y e:Int}{c:List Int}{P:Int->Int->Prop}
theorem PEx.mem(E:PEx s s')(hx:x∈s.trail):x∈s'.trail:=by
 obtain⟨e,he⟩:=E.tr;rw[he];simp[hx]
theorem PEx.get(E:PEx s s'){i:Nat}(hx:s.trail[i]?=some x):s'.trail[i]?=some x:=by
 obtain⟨e,he⟩:=E.tr;rw[he,List.getElem?_append_left (y2_ hx)];exact hx
theorem PEx.got(E:PEx s s'){i:Nat}(hi:i<s.trail.length)(hx:s'.trail[i]?=some x):s.trail[i]?=some x:=by
 obtain⟨e,he⟩:=E.tr
 rwa [he,List.getElem?_append_left hi]at hx
theorem PEx.lenT(E:PEx s s'):s.trail.length<=s'.trail.length:=by
 obtain⟨e,he⟩:=E.tr;rw[he];simp
theorem PEx.setL(h:TrI n s)(hl:isL l n=true)(hv:val s.vs l=0)(r:Int):PEx s (s.setL l r):=⟨⟨rfl,(CEq.refl s).2⟩,⟨[l],rfl⟩,(y72_ h hl hv).1,rfl⟩
theorem PEx.same(k:CEq s s')(e2:s'.lev=s.lev)(e4:s'.trail=s.trail)(e5:s'.marks=s.marks):PEx s s':=⟨k,⟨[],by simp[e4]⟩,fun x _=>by simp[PS.lv,e2],e5⟩
theorem JuC.ext(hc:JuC s h c)(E:PEx s s')(hh:h<=s.trail.length):JuC s' h c:=⟨hc.ne,fun x hx=>by
 obtain⟨h1,h2⟩:=hc.one x hx;exact⟨E.mem h1,by rw[E.lv x h1];exact h2⟩,fun i x y hi h1 h2 ⟨j,hj,h3⟩=>by
 have h4:=E.got (by omega) h3;obtain⟨h5,h6⟩:=hc.two i x y hi h1 h2 ⟨j,hj,h4⟩;have h7:=E.lv (-x) (List.mem_of_getElem? h4);rw[PS.lv_neg,PS.lv_neg]at h7;exact⟨E.mem h5,by rw[E.lv y h5,h7];exact h6⟩⟩
theorem JuI.upd(hJ:JuI s h)(E:PEx s s')(hh:h<=s.trail.length)(ho:∀j,j≠id->s'.cls[j]?=s.cls[j]?)(hi:∀c,s'.cls[id]?=some (c,true,false)->JuC s' h c):JuI s' h:=fun j c hc=>by
 by_cases e:j=id
 ·subst e;exact hi c hc
 ·rw[ho j e]at hc
  exact(hJ j c hc).ext E hh
theorem WaI.upd(hW:WaI s P){P':Int->Int->Prop}(ho:∀j,j≠id->s'.cls[j]?=s.cls[j]?)(hw:∀x e,e∈s.wat.getD (wAt x) []->e∈s'.wat.getD (wAt x) [])(hP:∀x (j:Nat),j≠id->P x j->(j:Int)∈s'.wat.getD (wAt x) []\/P' x j)
  (hi:∀c f,s'.cls[id]?=some (c,true,f)->2<=c.length->∀i x,i<2->c[i]?=some x->(id:Int)∈s'.wat.getD (wAt x) []\/P' x id):WaI s' P':=fun j c f hc hl i x hi2 hx=>by
 by_cases e:j=id
 ·subst e;exact hi c f hc hl i x hi2 hx
 ·rw[ho j e]at hc
  rcases hW j c f hc hl i x hi2 hx with h1|h1
  ·exact .inl (hw _ _ h1)
  ·exact hP x j e h1
theorem y7w_{α:Type}{xs:List (List α)}{i:Nat}{a:α}(h:a∈xs.getD i []):xs.getD i []∈xs:=by
 rw[List.getD_eq_getElem?_getD]at h⊢;cases hx:xs[i]? with
 |none=>rw[hx]at h;cases h
 |some w=>exact List.mem_of_getElem? hx
theorem y4q_(hl:wAt l<s.wat.length):e∈(s.watch l id).wat.getD (wAt x) []↔e∈s.wat.getD (wAt x) []\/(x=l/\e=id):=by
 simp only[PS.watch];rw[getD_set' hl];by_cases k:x=l
 ·subst k;simp
 ·rw[if_neg fun q=>k (y9m_ q)];simp[k]
theorem y6y_{ws:List (List Int)}{i:Nat}{w:List Int}(hi:i<ws.length):((ws.set i w).map List.length).sum+(ws.getD i []).length=(ws.map List.length).sum+w.length:=by
 induction ws generalizing i with
 |nil=>simp at hi
 | cons a t ih=>
  cases i with
  |zero=>simp;omega
  |succ i=>
   have:=ih (i:=i) (by simpa using hi);simp at this⊢;omega
theorem y9z_(hl:wAt l<s.wat.length):(s.watch l id).ent=s.ent+1:=by
 have:=y6y_ (w:=s.wat.getD (wAt l) []++[(id:Int)]) hl;simp only[PS.ent,PS.watch];simp at this⊢;omega
theorem y6l_{w:List Int}(hw:w∈s.wat):w.length<=s.ent:=by
 unfold PS.ent;generalize s.wat=ws at hw
 induction ws with
 |nil=>cases hw
 | cons a t ih=>
  rcases List.mem_cons.1 hw with rfl|hw
  ·simp
  ·have:=ih hw
   simp;omega
theorem WaE.ceq(h:WaE s e)(k:CEq s s'):WaE s' e:=by
 obtain⟨id,c,b,f,h1,h2,h3⟩:=h;obtain⟨c',f',h4,p⟩:=k.get h2;exact⟨id,c',b,f',h1,h4,fun hb=>by rw[p.length_eq];exact h3 hb⟩
theorem WaR.watch(hR:WaR s)(hi:WaE s id):WaR (s.watch l id):=fun w hw e he=>by
 have key:WaE s e:=by
  simp only[PS.watch]at hw;rcases List.mem_or_eq_of_mem_set hw with hw|rfl
  ·exact hR w hw e he
  ·rcases List.mem_append.1 he with he|he
   ·exact hR _ (y7w_ he) e he
   ·rw[List.mem_singleton.1 he];exact hi
 exact key
def swapL(c:List Int)(i j:Nat):List Int:=(c.set i (c.getD j 0)).set j (c.getD i 0)
theorem y16_{i j:Nat}(hi:i<c.length)(hj:j<c.length):(swapL c i j).Perm c:=by
 have h1:=Array.swap_perm (xs:=c.toArray) (i:=i) (j:=j) (by simpa using hi) (by simpa using hj);have h2:=h1.toList;rw[Array.toList_swap]at h2;unfold swapL;rw[List.getD_eq_getElem?_getD,List.getD_eq_getElem?_getD,List.getElem?_eq_getElem hi,List.getElem?_eq_getElem hj];simpa using h2
theorem y2o_{i j:Nat}:(swapL c i j).length=c.length:=by simp[swapL]
theorem yy_{i j k:Nat}(hi:i<c.length)(hj:j<c.length):(swapL c i j)[k]?=if k=j then c[i]? else if k=i then c[j]? else c[k]?:=by
 have h1:c.getD i 0=c[i]:=by rw[List.getD_eq_getElem?_getD,List.getElem?_eq_getElem hi];rfl
 have h2:c.getD j 0=c[j]:=by rw[List.getD_eq_getElem?_getD,List.getElem?_eq_getElem hj];rfl
 unfold swapL;rw[h1,h2,List.getElem?_set,List.getElem?_set];by_cases e:k=j
 ·subst e
  rw[if_pos rfl,if_pos rfl,if_pos (by simpa using hj),List.getElem?_eq_getElem hi]
 ·rw[if_neg e,if_neg (c:=j=k) fun h=>e h.symm]
  by_cases e2:k=i
  ·subst e2
   rw[if_pos rfl,if_pos rfl,if_pos hi,List.getElem?_eq_getElem hj]
  ·rw[if_neg e2,if_neg (c:=i=k) fun h=>e2 h.symm]
end
end
section
open Go
structure WaX(s s1:PS)(id:Nat)(nw:List Int):Prop where
 eq:s1={ s with wat:=s1.wat }
 len:s1.wat.length=s.wat.length
 mem:∀x e,e∈s1.wat.getD (wAt x) []↔e∈s.wat.getD (wAt x) []\/(x∈nw/\e=id)
 ent:s1.ent=s.ent+nw.length
 wr:(nw≠[]->WaE s id)->WaR s->WaR s1
def Bst(s:PS)(c:List Int):Prop:=∀i j x y,i<2->i<=j->c[i]?=some x->c[j]?=some y->s.rank y<=s.rank x
section
variable{n id:Nat}{s s0 s1 s':PS}{l x y e out:Int}{c c' nw P:List Int}{b f g:Bool}
theorem WaX.refl(s:PS)(id:Nat):WaX s s id []:=⟨rfl,rfl,by simp,by simp,fun _ h=>h⟩
theorem WaX.watch(h:WaX s s1 id nw)(hl:wAt l<s.wat.length):WaX s (s1.watch l id) id (nw++[l]):=by
 have hl1:wAt l<s1.wat.length:=by rw[h.len];exact hl
 have hc:s1.cls=s.cls:=by rw[h.eq]
 refine⟨?_,?_,fun x e=>?_,?_,fun hi hR=>?_⟩
 ·have:=h.eq
  rw[PS.watch,this]
 ·simp[PS.watch,h.len]
 ·rw[y4q_ hl1,h.mem];simp[or_assoc,or_and_right]
 ·rw[y9z_ hl1,h.ent];simp;omega
 ·have hi:=hi (by simp)
  exact(h.wr (fun _=>hi) hR).watch (by obtain⟨id,c,b,f,h1,h2,h3⟩:=hi;exact⟨id,c,b,f,h1,by rw[hc];exact h2,h3⟩)
structure AgI(n:Nat)(s0 s:PS)(P:List Int)(out:Int):Prop where
 ti:TrI n s
 ci:ClI n s
 li:LoI s P
 wi:WaI s fun _ _=>False
 wr:WaR s
 hd:s.head=s0.head
 ji:∀h:Nat,s0.head=h->h<=s0.trail.length/\JuI s h
 ex:PEx s0 s
 en:s.ent+2*(P.length+s.loose.length)<=s0.ent+2*s0.loose.length+(if out = -1 then 0 else 2)
 o1:out = -1->s.loose=[]
 o2:out≠-1->s.marks=[]/\∃(id:Nat) (c:List Int) (f:Bool),out=id/\s.cls[id]?=some (c,true,f)/\∀x∈c,val s.vs x=2
def Ready(s:PS)(id:Nat):Prop:=∃c f,s.cls[id]?=some (c,true,f)/\∃l∈c,val s.vs l=0/\(∀x∈c,x≠l->val s.vs x=2)/\(2<=c.length->∃x∈c,x≠l/\s.lv x=s.marks.length)/\(c.length=1->s.marks=[])
theorem TrI.rank_le(h:TrI n s)(hx:val s.vs x=2):s.rank x=s.lv x/\0<=s.lv x/\s.lv x<=s.marks.length:=by
 have:=h.lv (-x) (h.neg.1 hx);rw[PS.lv_neg]at this;exact⟨by simp[PS.rank,hx],this⟩
theorem yc1_(hx:val s.vs x≠2):s.rank x=s.marks.length+1:=by simp[PS.rank,hx]
structure AnI(s s1:PS)(id:Nat)(c c' nw:List Int):Prop where
 hc:s.cls[id]?=some (c,true,true)
 pm:c'.Perm c
 bst:Bst s c'
 wx:WaX { s with cls:=s.cls.set id (c',true,false) } s1 id nw
 n2:nw≠[]->2<=c.length
 nl:nw.length<=2
 tk:∀x∈c'.take 2,x∈nw\/x∈c.take 2
theorem AnI.ff(h:AnI s s1 id c c' nw):s1.vs=s.vs/\s1.lev=s.lev/\s1.rea=s.rea/\s1.trail=s.trail/\s1.marks=s.marks/\s1.head=s.head/\s1.loose=s.loose/\s1.cls=s.cls.set id (c',true,false)/\s1.wat.length=s.wat.length:=by
 have h1:=h.wx.eq;have h2:=h.wx.len;rw[h1];exact⟨rfl,rfl,rfl,rfl,rfl,rfl,rfl,rfl,h2⟩
theorem AnI.base(h:AnI s s1 id c c' nw)(A:AgI n s0 s ((id:Int)::P) (-1)) :
  TrI n s1/\ClI n s1/\LoI s1 P/\(WaI s1 fun _ _=>False)/\WaR s1/\PEx s s1/\s1.ent<=s.ent+2/\s1.cls[id]?=some (c',true,false)/\(∀j,j≠id->s1.cls[j]?=s.cls[j]?)/\(∀k:Nat,s0.head=k->k<=s.trail.length)/\s.loose=[]/\(id:Int)∉P:=by
 obtain⟨f1,f2,f3,f4,f5,f6,f7,f8,f9⟩:=h.ff;have hlt:=y2_ h.hc;have hE:CEq s s1:=by
  have:=CEq.put (f':=false) h.hc h.pm;exact⟨by rw[f8];simp,fun j a d h1 h2=>this.2 j a d h1 (by rw[f8]at h2;exact h2)⟩
 have hid:s1.cls[id]?=some (c',true,false):=by rw[f8,List.getElem?_set,if_pos rfl,if_pos hlt]
 have hoth:∀j,j≠id->s1.cls[j]?=s.cls[j]?:=fun j hj=>by rw[f8,List.getElem?_set,if_neg fun e=>hj e.symm]
 have hlo:=A.o1 rfl;have hnd:=A.li.nd;rw[hlo,List.append_nil]at hnd;obtain⟨hni,hndP⟩:=List.nodup_cons.1 hnd;have hT:TrI n s1:=A.ti.same hE f1 f2 f3 f4 f5 f9;refine⟨hT,A.ci.ceq hE,⟨by rw[f7,hlo,List.append_nil];exact hndP,fun x hx=>?_,fun j d b hj=>?_⟩,?_,?_,PEx.same hE f2 f4 f5,?_,hid,hoth,fun k hk=>?_,hlo,hni⟩
 ·rw[f7,hlo,List.append_nil]at hx
  obtain⟨j,d,b,e,h2⟩:=A.li.fl x (by simp[hx]);refine⟨j,d,b,e,?_⟩;rw[hoth j fun q=>hni (by rw[<-q,<-e];exact hx)];exact h2
 ·by_cases e:j=id
  ·subst e;rw[hid]at hj;cases hj
  ·rw[hoth j e]at hj
   have:=A.li.lf j d b hj;rw[hlo,List.append_nil]at this;rw[f7,hlo,List.append_nil];rcases List.mem_cons.1 this with q|q
   ·exact absurd (Int.ofNat.inj q) e
   ·exact q
 ·refine A.wi.upd (id:=id) hoth (fun x e he=>(h.wx.mem x e).2 (.inl he)) (fun x j _ q=>q.elim) fun d f hd hl i x hi hx=>?_
  rw[hid]at hd;cases hd;have hx2:x∈c'.take 2:=List.mem_of_getElem? (i:=i) (by rw[List.getElem?_take_of_lt hi];exact hx);rcases h.tk x hx2 with q|q
  ·exact .inl ((h.wx.mem x id).2 (.inr ⟨q,rfl⟩))
  ·obtain⟨k,hk⟩:=y9_ q
   have hk2:k<2:=by have:=y2_ hk;simp at this;omega
   rw[List.getElem?_take_of_lt hk2]at hk;rcases A.wi id c true h.hc (by rw[<-h.pm.length_eq];exact hl) k x hk2 hk with q|q
   ·exact .inl ((h.wx.mem x id).2 (.inl q))
   ·exact q.elim
 ·have hE2:=CEq.put (f':=false) h.hc h.pm
  have hW2:WaR { s with cls:=s.cls.set id (c',true,false) }:=fun w hw e he=>(A.wr w hw e he).ceq hE2;exact h.wx.wr (fun hnw=>⟨id,c',true,false,rfl,by simp[hlt],fun _=>by rw[h.pm.length_eq];exact h.n2 hnw⟩) hW2
 ·have:=h.wx.ent
  have h2:=h.nl;have h3:PS.ent { s with cls:=s.cls.set id (c',true,false) }=s.ent:=rfl;omega
 ·exact Nat.le_trans (A.ji k hk).1 A.ex.lenT
theorem AgI.bad(A:AgI n s0 s ((id:Int)::P) (-1))(h:AnI s s1 id c c' nw)(hm:s.marks=[])(hf:∀x∈c',val s.vs x=2):AgI n s0 (s1.look id) P id:=by
 obtain⟨f1,f2,f3,f4,f5,f6,f7,f8,f9⟩:=h.ff;obtain⟨b1,b2,b3,b4,b5,b6,b7,b8,b9,b10,b11,b12⟩:=h.base A;have hL:s1.look id={ s1 with cls:=s1.cls.set id (c',true,true),loose:=s1.loose++[(id:Int)] }:=by unfold PS.look;rw[b8]
 have hlt:=y2_ b8;have hE:CEq s1 (s1.look id):=by
  have:=CEq.put (f':=true) b8 (.refl c');rw[hL];exact⟨by simp,this.2⟩
 have hid:(s1.look id).cls[id]?=some (c',true,true):=by rw[hL];simp[hlt]
 have hoth:∀j,j≠id->(s1.look id).cls[j]?=s1.cls[j]?:=fun j hj=>by rw[hL];show(s1.cls.set id (c',true,true))[j]?=_;rw[List.getElem?_set,if_neg fun e=>hj e.symm]
 have eloose:(s1.look id).loose=[(id:Int)]:=by rw[hL];simp[f7,b11]
 have hEx:PEx s1 (s1.look id):=PEx.same hE (by rw[hL]) (by rw[hL]) (by rw[hL]);have hJE:=b6.trans hEx;refine⟨b1.same hE (by rw[hL]) (by rw[hL]) (by rw[hL]) (by rw[hL]) (by rw[hL]) (by rw[hL]),b2.ceq hE,⟨?_,fun x hx=>?_,fun j d b hj=>?_⟩,?_,?_,?_,fun k hk=>⟨(A.ji k hk).1,?_⟩,A.ex.trans hJE,?_,fun e=>by omega,fun _=>⟨?_,id,c',true,rfl,hid,?_⟩⟩
 ·rw[eloose]
  have:=A.li.nd;rw[b11,List.append_nil]at this;exact List.nodup_append.2 ⟨(List.nodup_cons.1 this).2,by simp,fun x hx y hy e=>b12 (by rw[List.mem_singleton.1 hy]at e;rw[<-e];exact hx)⟩
 ·rw[eloose]at hx
  rcases List.mem_append.1 hx with hx|hx
  ·obtain⟨j,d,b,e,h2⟩:=b3.fl x (by simp[hx])
   exact⟨j,d,b,e,by rw[hoth j fun q=>b12 (by rw[<-q,<-e];exact hx)];exact h2⟩
  ·exact⟨id,c',true,List.mem_singleton.1 hx,hid⟩
 ·rw[eloose]
  by_cases e:j=id
  ·subst e;simp
  ·rw[hoth j e]at hj
   have:=b3.lf j d b hj;rw[f7,b11,List.append_nil]at this;simp[this]
 ·refine b4.upd (id:=id) hoth (fun x e he=>by rw[hL];exact he) (fun _ _ _ q=>q.elim) fun d f hd hl i x hi hx=>?_
  rw[hid]at hd;cases hd;rcases b4 id c' false b8 hl i x hi hx with q|q
  ·left;rw[hL];exact q
  ·exact q.elim
 ·intro w hw e he
  rw[hL]at hw;exact(b5 w hw e he).ceq hE
 ·rw[hL];show s1.head=_;rw[f6];exact A.hd
 ·refine(A.ji k hk).2.upd (id:=id) hJE (b10 k hk) (fun j hj=>by rw[hoth j hj,b9 j hj]) fun d hd=>?_
  rw[hid]at hd;cases hd
 ·have h1:=A.en
  have h2:(s1.look id).ent=s1.ent:=by rw[hL];rfl
  rw[eloose,h2,if_neg (by omega)];rw[if_pos rfl,b11]at h1;simp at h1⊢;omega
 ·rw[hL];show s1.marks=[];rw[f5];exact hm
 ·intro x hx
  rw[hL];show val s1.vs x=2;rw[f1];exact hf x hx
theorem AgI.good(A:AgI n s0 s ((id:Int)::P) (-1))(h:AnI s s1 id c c' nw)(E:PEx s1 s')(ht:TrI n s')(e1:s'.cls=s1.cls)(e2:s'.wat=s1.wat)(e3:s'.head=s1.head)(e4:s'.loose=s1.loose)(hJ:∀k:Nat,k<=s.trail.length->JuC s' k c'):AgI n s0 s' P (-1):=by
 obtain⟨f1,f2,f3,f4,f5,f6,f7,f8,f9⟩:=h.ff;obtain⟨b1,b2,b3,b4,b5,b6,b7,b8,b9,b10,b11,b12⟩:=h.base A;refine⟨ht,fun j d f hd=>b2 j d f (by rw[<-e1];exact hd),⟨by rw[e4];exact b3.nd,fun x hx=>?_,fun j d b hj=>?_⟩,?_,?_,by rw[e3,f6];exact A.hd,fun k hk=>⟨(A.ji k hk).1,?_⟩,A.ex.trans (b6.trans E),?_,fun _=>by rw[e4,f7];exact b11,fun q=>absurd rfl q⟩
 ·rw[e4]at hx;rw[e1];exact b3.fl x hx
 ·rw[e1]at hj;rw[e4];exact b3.lf j d b hj
 ·intro j d f hd hl i x hi hx
  rw[e1]at hd;rw[e2];exact b4 j d f hd hl i x hi hx
 ·intro w hw e he
  rw[e2]at hw;obtain⟨j,d,b,g,h1,h2,h3⟩:=b5 w hw e he;exact⟨j,d,b,g,h1,by rw[e1];exact h2,h3⟩
 ·refine(A.ji k hk).2.upd (id:=id) (b6.trans E) (b10 k hk) (fun j hj=>by rw[e1,b9 j hj]) fun d hd=>?_
  rw[e1,b8]at hd;cases hd;exact hJ k (b10 k hk)
 ·have h1:=A.en
  have h2:s'.ent=s1.ent:=by simp only[PS.ent,e2]
  rw[e4,f7,b11,h2,if_pos rfl];rw[if_pos rfl,b11]at h1;simp at h1⊢;omega
end
end
section
open Go
structure PrI(n:Nat)(s:PS):Prop where
 ti:TrI n s
 ci:ClI n s
 li:LoI s []
 lo:s.loose=[]
 wi:WaI s fun _ _=>False
 wr:WaR s
 hd:∃h:Nat,s.head=h/\h<=s.trail.length/\(∀m∈s.marks,m<=(h:Int))/\JuI s h
structure FaI(n:Nat)(s0 s:PS)(h:Nat)(f:Int)(stay R:List Int)(out:Int):Prop where
 ti:TrI n s
 ci:ClI n s
 li:LoI s []
 lo:s.loose=[]
 wi:WaI s fun x id=>x=f/\id∈stay++R
 wr:WaR s
 sr:∀e∈stay++R,WaE s e
 hd:s.head=s0.head
 fh:s.trail[h]?=some (-f)
 fl:s.lv f=s.marks.length
 ji:JuI s h
 ki:out = -1->∀(id:Nat) c fl,s.cls[id]?=some (c,true,fl)->∀i y,i<2->c[i]?=some f->c[1-i]?=some y->(id:Int)∈R\/(y∈s.trail/\s.lv y<=s.lv f)
 o2:out≠-1->∃(id:Nat) (c:List Int) (fl:Bool),out=id/\s.cls[id]?=some (c,true,fl)/\f∈c/\∀x∈c,val s.vs x=2
 ex:PEx s0 s
 en:s.ent+stay.length+R.length<=s0.ent
section
variable{n id h:Nat}{s s0 s':PS}{l x y z e f out out':Int}{c c' stay stay' R:List Int}{b fl:Bool}
theorem LoI.flag(h:LoI s [])(hl:s.loose=[])(hc:s.cls[id]?=some (c,b,fl)):fl=false:=by
 cases fl with
 |false=>rfl
 |true=>have:=h.lf id c b hc;rw[hl]at this;cases this
theorem FaI.fv(A:FaI n s0 s h f stay R out):val s.vs f=2:=A.ti.neg.2 (List.mem_of_getElem? A.fh)
theorem FaI.start(A:PrI n s)(hh:s.head=(h:Int))(hf:s.trail[h]?=some (-f))(hb:wAt f<s.wat.length):FaI n s { s with wat:=s.wat.set (wAt f) [] } h f [] (s.wat.getD (wAt f) []) (-1):=by
 obtain⟨k,e1,e2,e3,e4⟩:=A.hd;have e5:k=h:=by omega
 subst e5;have hE:CEq s { s with wat:=s.wat.set (wAt f) [] }:=⟨rfl,(CEq.refl s).2⟩;have hlv:=A.ti.lv _ (List.mem_of_getElem? hf);have hlf:s.lv f=s.marks.length:=by
  rw[PS.lv_neg]at hlv;by_cases hm:s.marks.length=0
  ·omega
  ·obtain⟨m,hm2⟩:=y3_ (xs:=s.marks) (i:=s.marks.length-1) (by omega)
   obtain⟨a,g1,_,g3⟩:=A.ti.mks _ m hm2;have:=e3 m (List.mem_of_getElem? hm2);have:=(g3 k _ hf).1 (by omega);rw[PS.lv_neg]at this;omega
 have hmem:∀x e,e∈(s.wat.set (wAt f) ([]:List Int)).getD (wAt x) []↔e∈s.wat.getD (wAt x) []/\x≠f:=fun x e=>by
  rw[getD_set' hb];by_cases q:x=f
  ·subst q;simp
  ·rw[if_neg fun w=>q (y9m_ w)];simp[q]
 refine⟨A.ti.same hE rfl rfl rfl rfl rfl (by simp),A.ci.ceq hE,⟨A.li.nd,A.li.fl,A.li.lf⟩,A.lo,?_,fun w hw e he=>?_,fun e he=>?_,rfl,hf,hlf,fun j d hd=>?_,fun _ j d g hd i y hi h1 h2=>?_,fun q=>absurd rfl q,PEx.same hE rfl rfl rfl,?_⟩
 ·intro j d g hd hl i x hi hx
  rcases A.wi j d g hd hl i x hi hx with q|q
  ·by_cases e:x=f
   ·subst e;exact .inr ⟨rfl,by simpa using q⟩
   ·exact .inl ((hmem x j).2 ⟨q,e⟩)
  ·exact q.elim
 ·have key:WaE s e:=by
   rcases List.mem_or_eq_of_mem_set hw with hw|rfl
   ·exact A.wr w hw e he
   ·cases he
  exact key
 ·exact A.wr _ (y7w_ (by simpa using he)) e (by simpa using he)
 ·exact(e4 j d hd).ext (PEx.same hE rfl rfl rfl) e2
 ·have hl2:2<=d.length:=by have:=y2_ h1;have:=y2_ h2;omega
  rcases A.wi j d g hd hl2 i f hi h1 with q|q
  ·exact .inl q
  ·exact q.elim
 ·have:=y6y_ (w:=[]) hb
  simp only[PS.ent];simp at this⊢;omega
theorem FaI.skip(A:FaI n s0 s h f stay ((id:Int)::R) (-1))(hs:∀c fl,s.cls[id]?=some (c,true,fl)->∀i,i<2->c[i]?≠some f):FaI n s0 s h f stay R (-1):=by
 refine⟨A.ti,A.ci,A.li,A.lo,fun j d g hd hl i x hi hx=>?_,A.wr,fun e he=>A.sr e (by simp at he⊢;rcases he with q|q<;>simp[q]),A.hd,A.fh,A.fl,A.ji,fun q j d g hd i y hi h1 h2=>?_,A.o2,A.ex,by have:=A.en;simp at this;omega⟩
 ·rcases A.wi j d g hd hl i x hi hx with q|⟨q1,q2⟩
  ·exact .inl q
  ·subst q1
   by_cases e:j=id
   ·subst e;exact absurd hx (hs d g hd i hi)
   ·right;refine⟨rfl,?_⟩
    simp at q2⊢;rcases q2 with q|q|q
    ·exact .inl q
    ·exact absurd q (by omega)
    ·exact .inr q
 ·rcases A.ki q j d g hd i y hi h1 h2 with w|w
  ·rcases List.mem_cons.1 w with w|w
   ·have:j=id:=Int.ofNat.inj w
    subst this;exact absurd h1 (hs d g hd i hi)
   ·exact .inl w
  ·exact .inr w
theorem FaI.upd(A:FaI n s0 s h f stay ((id:Int)::R) (-1))(hc:s.cls[id]?=some (c,true,false))(hp:c'.Perm c)(E:PEx s s')(ht:TrI n s')(e1:s'.cls=s.cls.set id (c',true,false))(e2:s'.loose=s.loose)(e3:s'.head=s.head)
  (hw:∀x e,e∈s.wat.getD (wAt x) []->e∈s'.wat.getD (wAt x) []) (hr:WaR s') (hst:stay'=stay\/stay'=stay++[(id:Int)])
  (hwi:∀i x,i<2->c'[i]?=some x->(id:Int)∈s'.wat.getD (wAt x) []\/(x=f/\(id:Int)∈stay')) (hJ:JuC s' h c')
  (hki:out' = -1->∀i y,i<2->c'[i]?=some f->c'[1-i]?=some y->y∈s'.trail/\s'.lv y<=s'.lv f) (hen:s'.ent+stay'.length<=s.ent+stay.length+1)
  (ho:out'≠-1->out'=id/\f∈c'/\∀x∈c',val s'.vs x=2):FaI n s0 s' h f stay' R out':=by
 have hlt:=y2_ hc;have hE:=E.ceq;have hid:s'.cls[id]?=some (c',true,false):=by rw[e1,List.getElem?_set,if_pos rfl,if_pos hlt]
 have hoth:∀j,j≠id->s'.cls[j]?=s.cls[j]?:=fun j hj=>by rw[e1,List.getElem?_set,if_neg fun e=>hj e.symm]
 have hlv:s'.lv f=s.lv f:=by
  have:=E.lv _ (List.mem_of_getElem? A.fh)
  rwa [PS.lv_neg,PS.lv_neg]at this
 have hss:∀e,e∈stay->e∈stay':=fun e he=>by rcases hst with q|q<;>rw[q]<;>simp[he]
 refine⟨ht,A.ci.ceq hE,⟨by rw[e2,A.lo];simp,fun x hx=>(by rw[e2,A.lo]at hx;cases hx),fun j d g hd=>?_⟩,(by rw[e2];exact A.lo),?_,hr,fun e he=>?_,by rw[e3];exact A.hd,E.get A.fh,by rw[hlv,E.mks];exact A.fl,A.ji.upd (id:=id) E (Nat.le_of_lt (y2_ A.fh)) hoth (fun d hd=>by rw[hid]at hd;cases hd;exact hJ),fun q j d g hd i y hi h1 h2=>?_,fun q=>?_,A.ex.trans E,by have:=A.en;simp at this;omega⟩
 ·by_cases e:j=id
  ·subst e;rw[hid]at hd;cases hd
  ·rw[hoth j e]at hd
   have:=A.li.flag A.lo hd;cases this
 ·refine A.wi.upd (id:=id) hoth hw (fun x j hj ⟨q1,q2⟩=>.inr ⟨q1,?_⟩) fun d g hd hl i x hi hx=>?_
  ·simp at q2⊢
   rcases q2 with q|q|q
   ·exact .inl (hss _ q)
   ·exact absurd q (by omega)
   ·exact .inr q
  ·rw[hid]at hd;cases hd
   rcases hwi i x hi hx with q|⟨q1,q2⟩
   ·exact .inl q
   ·exact .inr ⟨q1,by simp[q2]⟩
 ·refine(A.sr e ?_).ceq hE
  simp at he⊢;rcases he with q|q
  ·rcases hst with w|w<;>rw[w]at q
   ·exact .inl q
   ·simp at q
    rcases q with q|q
    ·exact .inl q
    ·exact .inr (.inl q)
  ·exact .inr (.inr q)
 ·by_cases e:j=id
  ·subst e;rw[hid]at hd;cases hd;exact .inr (hki q i y hi h1 h2)
  ·rw[hoth j e]at hd
   rcases A.ki rfl j d g hd i y hi h1 h2 with w|⟨w1,w2⟩
   ·rcases List.mem_cons.1 w with w|w
    ·exact absurd (Int.ofNat.inj w) e
    ·exact .inl w
   ·exact .inr ⟨E.mem w1,by rw[E.lv y w1,hlv];exact w2⟩
 ·obtain⟨h1,h2,h3⟩:=ho q
  exact⟨id,c',false,h1,hid,h2,h3⟩
theorem FaI.rest(A:FaI n s0 s h f stay (e::R) out)(ho:out≠-1):FaI n s0 s h f (stay++[e]) R out:=by
 have q:(stay++[e])++R=stay++e::R:=by simp
 exact⟨A.ti,A.ci,A.li,A.lo,by rw[q];exact A.wi,A.wr,by rw[q];exact A.sr,A.hd,A.fh,A.fl,A.ji,fun w=>absurd w ho,A.o2,A.ex,by have:=A.en;simp at this⊢;omega⟩
theorem FaI.fin(A:FaI n s0 s h f stay [] out)(h0:PrI n s0)(hh:s0.head=(h:Int))(hb:wAt f<s.wat.length)(hs:s'={ s with wat:=s.wat.set (wAt f) (stay++s.wat.getD (wAt f) []) }) :
  (out = -1->PrI n { s' with head:=(h:Int)+1 })/\(out≠-1->PrI n s'/\∃(id:Nat) (c:List Int) (fl:Bool),out=id/\s'.cls[id]?=some (c,true,fl)/\(∀x∈c,val s'.vs x=2)/\∃x∈c,s'.lv x=s'.marks.length)/\PEx s0 s'/\s'.ent<=s0.ent:=by
 have hE:CEq s s':=by rw[hs];exact⟨rfl,(CEq.refl s).2⟩
 have hEx:PEx s s':=PEx.same hE (by rw[hs]) (by rw[hs]) (by rw[hs]);have hT:TrI n s':=A.ti.same hE (by rw[hs]) (by rw[hs]) (by rw[hs]) (by rw[hs]) (by rw[hs]) (by rw[hs];simp);have hmem:∀x e,e∈s'.wat.getD (wAt x) []↔e∈s.wat.getD (wAt x) []\/(x=f/\e∈stay):=fun x e=>by
  rw[hs];dsimp only;rw[getD_set' hb];by_cases q:x=f
  ·subst q;simp[or_comm]
  ·rw[if_neg fun w=>q (y9m_ w)];simp[q]
 have hL:LoI s' []:=by rw[hs];exact⟨A.li.nd,A.li.fl,A.li.lf⟩
 have hlo:s'.loose=[]:=by rw[hs];exact A.lo
 have hW:WaI s' fun _ _=>False:=fun j d g hd hl i x hi hx=>by
  have hd':s.cls[j]?=some (d,true,g):=by rw[hs]at hd;exact hd
  rcases A.wi j d g hd' hl i x hi hx with q|⟨q1,q2⟩
  ·exact .inl ((hmem x j).2 (.inl q))
  ·exact .inl ((hmem x j).2 (.inr ⟨q1,by simpa using q2⟩))
 have hR:WaR s':=fun w hw e he=>by
  have key:WaE s e:=by
   rw[hs]at hw;rcases List.mem_or_eq_of_mem_set hw with hw|rfl
   ·exact A.wr w hw e he
   ·rcases List.mem_append.1 he with he|he
    ·exact A.sr e (by simp[he])
    ·exact A.wr _ (y7w_ he) e he
  exact key.ceq hE
 obtain⟨k,e1,e2,e3,e4⟩:=h0.hd;have hk:k=h:=by omega
 subst hk;have hmk:s'.marks=s0.marks:=(A.ex.trans hEx).mks;have hen:s'.ent<=s0.ent:=by
  have h1:=y6y_ (w:=stay++s.wat.getD (wAt f) []) hb;have h2:=A.en;have h3:s'.ent=((s.wat.set (wAt f) (stay++s.wat.getD (wAt f) [])).map List.length).sum:=by rw[hs];rfl
  simp only[PS.ent]at h2 h3⊢;simp at h1 h2 h3⊢;omega
 have hJ:JuI s' k:=fun j d hd=>by
  have hd':s.cls[j]?=some (d,true,false):=by rw[hs]at hd;exact hd
  exact(A.ji j d hd').ext hEx (Nat.le_of_lt (y2_ A.fh))
 have hlen:=y2_ (hEx.get A.fh);refine⟨fun ho=>?_,fun ho=>⟨⟨hT,A.ci.ceq hE,hL,hlo,hW,hR,k,by rw[hs];show s.head=_;rw[A.hd];exact hh,by omega,by rw[hmk];exact e3,hJ⟩,?_⟩,A.ex.trans hEx,hen⟩
 ·have hE2:CEq s' { s' with head:=(k:Int)+1 }:=⟨rfl,(CEq.refl s').2⟩
  have hEx2:=PEx.same (s:=s') (s':={ s' with head:=(k:Int)+1 }) hE2 rfl rfl rfl;refine⟨hT.same hE2 rfl rfl rfl rfl rfl rfl,(A.ci.ceq hE).ceq hE2,⟨hL.nd,hL.fl,hL.lf⟩,hlo,hW,hR,k+1,by simp,hlen,fun m hm=>?_,fun j d hd=>?_⟩
  ·have:=e3 m (by rw[<-hmk];exact hm)
   omega
  ·have hd2:s'.cls[j]?=some (d,true,false):=hd
   have hd':s.cls[j]?=some (d,true,false):=by rw[hs]at hd2;exact hd2
   have J0:=hJ j d hd2;refine⟨J0.ne,J0.one,fun i x y hi h1 h2 ⟨q,hq1,hq2⟩=>?_⟩;by_cases hqk:q=k
   ·subst hqk
    have h5:=hEx.get A.fh;have hq3:s'.trail[q]?=some (-x):=hq2;rw[h5]at hq3;have hxf:x=f:=by have:=Option.some.inj hq3;omega
    subst hxf;rcases A.ki ho j d false hd' i y hi h1 h2 with w|⟨w1,w2⟩
    ·cases w
    ·have g1:=hEx.mem w1
     have g2:=hEx.lv y w1;have g3:=hEx.lv _ (List.mem_of_getElem? A.fh);rw[PS.lv_neg,PS.lv_neg]at g3;exact⟨g1,by show s'.lv y<=s'.lv x;rw[g2,g3];exact w2⟩
   ·exact J0.two i x y hi h1 h2 ⟨q,by omega,hq2⟩
 ·obtain⟨j,d,g,h1,h2,h3,h4⟩:=A.o2 ho
  obtain⟨d',g',h5,p⟩:=hE.get h2;have g3:=hEx.lv _ (List.mem_of_getElem? A.fh);rw[PS.lv_neg,PS.lv_neg]at g3;exact⟨j,d',g',h1,h5,fun x hx=>by rw[hs];exact h4 x (p.mem_iff.1 hx),f,p.mem_iff.2 h3,by rw[g3,hEx.mks];exact A.fl⟩
end
end
section
open Go
structure StI(n:Nat)(s:PS):Prop where
 ti:TrI n s
 ci:ClI n s
 li:LoI s []
 wi:WaI s fun _ _=>False
 wr:WaR s
 hd:∃h:Nat,s.head=h/\h<=s.trail.length/\(∀m∈s.marks,m<=(h:Int))/\JuI s h
section
variable{n id h k:Nat}{s s0 s1 s':PS}{l x y z e f out:Int}{c c' nw P:List Int}{b fl:Bool}
theorem PrI.si(h:PrI n s):StI n s:=⟨h.ti,h.ci,h.li,h.wi,h.wr,h.hd⟩
theorem StI.pp(h:StI n s)(hl:s.loose=[]):PrI n s:=⟨h.ti,h.ci,h.li,hl,h.wi,h.wr,h.hd⟩
theorem JuC.top(ht:TrI n s)(h2:2<=c.length)(h0:∀i x,i<2->c[i]?=some x->val s.vs x≠2):JuC s k c:=⟨fun e=>by simp[e]at h2,fun x e=>by simp[e]at h2,fun i x y hi hx hy ⟨j,_,hj⟩=>absurd (ht.neg.2 (List.mem_of_getElem? hj)) (h0 i x hi hx)⟩
theorem JuC.sat(ht:TrI n s)(hx:c[0]?=some x)(hm:x∈s.trail)(h1:c.length=1->s.lv x=0)(h2:∀y,c[1]?=some y->s.lv x<=s.lv y):JuC s k c:=by
 refine⟨fun e=>by simp[e]at hx,fun w e=>?_,fun i w y hi hw hy ⟨j,_,hj⟩=>?_⟩
 ·subst e
  simp at hx;subst hx;exact⟨hm,h1 rfl⟩
 ·match i,hi with
  |0,_=>
   have:x=w:=by rw[hx]at hw;exact Option.some.inj hw
   subst this;exact(ht.notBoth hm (List.mem_of_getElem? hj)).elim
  |1,_=>
   have:y=x:=by rw[show(1-1:Nat)=0 from rfl,hx]at hy;exact(Option.some.inj hy).symm
   subst this;exact⟨hm,h2 w hw⟩
theorem JuC.swap(hJ:JuC s k c)(h2:2<=c.length):JuC s k (swapL c 0 1):=by
 have hg:∀i,i<2->(swapL c 0 1)[i]?=c[1-i]?:=fun i hi=>by
  rw[yy_ (by omega) (by omega)]
  match i,hi with
  |0,_=>rfl
  |1,_=>rfl
 refine⟨fun e=>by have:=y2o_ (c:=c) (i:=0) (j:=1);rw[e]at this;simp at this;omega,fun w e=>by have:=y2o_ (c:=c) (i:=0) (j:=1);rw[e]at this;simp at this;omega,fun i x y hi hx hy hj=>?_⟩;rw[hg i hi]at hx;rw[hg (1-i) (by omega)]at hy;exact hJ.two (1-i) x y (by omega) hx hy hj
def PS.unsetL(s:PS)(l:Int):PS:={ s with vs:=s.vs.set l.natAbs 0,lev:=s.lev.set l.natAbs (-1),rea:=s.rea.set l.natAbs (-1) }
def PS.back(s:PS)(k a:Nat):PS:={ (s.trail.drop a).foldl PS.unsetL s with trail:=s.trail.take a,marks:=s.marks.take k,head:=min s.head a }
structure UnX(s s1:PS)(xs:List Int):Prop where
 eq:s1={ s with vs:=s1.vs,lev:=s1.lev,rea:=s1.rea }
 l1:s1.vs.length=s.vs.length
 l2:s1.lev.length=s.lev.length
 l3:s1.rea.length=s.rea.length
 vs:∀v,s1.vs.getD v 0=if v∈xs.map Int.natAbs then 0 else s.vs.getD v 0
 lv:∀v,v∉xs.map Int.natAbs->s1.lev.getD v 0=s.lev.getD v 0
 re:∀v,v∉xs.map Int.natAbs->s1.rea.getD v 0=s.rea.getD v 0
theorem UnX.refl(s:PS):UnX s s []:=⟨rfl,rfl,rfl,rfl,by simp,by simp,by simp⟩
theorem UnX.step{xs:List Int}(h:UnX s s1 xs)(h1:l.natAbs<s.vs.length)(h2:l.natAbs<s.lev.length)(h3:l.natAbs<s.rea.length):UnX s (s1.unsetL l) (xs++[l]):=by
 refine⟨?_,by simp[PS.unsetL,h.l1],by simp[PS.unsetL,h.l2],by simp[PS.unsetL,h.l3],fun v=>?_,fun v hv=>?_,fun v hv=>?_⟩
 ·have:=h.eq
  rw[PS.unsetL,this]
 ·simp only[PS.unsetL]
  rw[getD_set' (by rw[h.l1];exact h1),h.vs v];by_cases e:v=l.natAbs
  ·simp[e]
  ·simp[e]
 ·simp only[PS.unsetL]
  simp only[List.map_append,List.mem_append,not_or]at hv;rw[getD_set' (by rw[h.l2];exact h2),if_neg (fun e=>hv.2 (by simp[e])),h.lv v hv.1]
 ·simp only[PS.unsetL]
  simp only[List.map_append,List.mem_append,not_or]at hv;rw[getD_set' (by rw[h.l3];exact h3),if_neg (fun e=>hv.2 (by simp[e])),h.re v hv.1]
theorem UnX.fold{xs:List Int}(hx:∀l∈xs,l.natAbs<s.vs.length/\l.natAbs<s.lev.length/\l.natAbs<s.rea.length):UnX s (xs.foldl PS.unsetL s) xs:=by
 have:∀ys zs s1,UnX s s1 zs->(∀l∈ys,l.natAbs<s.vs.length/\l.natAbs<s.lev.length/\l.natAbs<s.rea.length)->UnX s (ys.foldl PS.unsetL s1) (zs++ys):=by
  intro ys
  induction ys with
  |nil=>intro zs s1 h _;simpa using h
  |cons a t ih=>
   intro zs s1 h hy;obtain⟨g1,g2,g3⟩:=hy a (by simp);have:=ih (zs++[a]) _ (h.step g1 g2 g3) fun l hl=>hy l (by simp[hl]);simpa using this
 simpa using this xs [] s (UnX.refl s) hx
theorem TrI.in(h:TrI n s)(hl:l∈s.trail):l.natAbs<s.vs.length/\l.natAbs<s.lev.length/\l.natAbs<s.rea.length:=by
 have:=yb_ (h.rng l hl);obtain⟨q1,q2,q3,q4⟩:=h.len;omega
theorem StI.back(S:StI n s){a:Nat}(hm:s.marks[k]?=some (a:Int)):StI n (s.back k a)/\(s.back k a).marks=s.marks.take k/\(s.back k a).trail=s.trail.take a/\(s.back k a).cls=s.cls/\(s.back k a).loose=s.loose/\(s.back k a).wat=s.wat/\(s.back k a).head=a/\a<s.trail.length /\
  (∀x∈s.trail.take a,(s.back k a).lv x=s.lv x)/\(∀x∈s.trail,x∈s.trail.take a↔s.lv x<=k)/\∀x,val (s.back k a).vs x=if x∈s.trail.take a then 1 else if -x∈s.trail.take a then 2 else 0:=by
 have ht:=S.ti;have U:=UnX.fold (s:=s) (xs:=s.trail.drop a) fun l hl=>ht.in (List.mem_of_mem_drop hl);obtain⟨a',e,⟨l0,h0,h0l⟩,hlt⟩:=ht.mks k _ hm;have e:a=a':=by omega
 subst e;have hkm:=y2_ hm;have hal:=y2_ h0;have hdrop:∀x,x∈s.trail.drop a->∃i,a<=i/\s.trail[i]?=some x:=fun x hx=>by
  obtain⟨i,hi⟩:=y9_ hx;exact⟨a+i,by omega,by rw[List.getElem?_drop]at hi;exact hi⟩
 have htake:∀x,x∈s.trail.take a->∃i,i<a/\s.trail[i]?=some x:=fun x hx=>by
  obtain⟨i,hi⟩:=y9_ hx;have:=y2_ hi;have hia:i<a:=by simp at this;omega
  exact⟨i,hia,by rwa [List.getElem?_take_of_lt hia]at hi⟩
 have hnot:∀x,x∈s.trail.take a->x.natAbs∉(s.trail.drop a).map Int.natAbs:=fun x hx hm=>by
  obtain⟨y,hy,e⟩:=List.mem_map.1 hm;obtain⟨i,hi,gi⟩:=htake x hx;obtain⟨j,hj,gj⟩:=hdrop y hy;have:=ht.abs (List.mem_of_getElem? gi) (List.mem_of_getElem? gj) e.symm;subst this;have:=nd_ix ht.nd gi gj;omega
 have hlev:∀x∈s.trail,x∈s.trail.take a↔s.lv x<=k:=fun x hx=>by
  constructor
  ·intro h
   obtain⟨i,hi,gi⟩:=htake x h;have:=hlt i x gi;omega
  ·intro h
   obtain⟨i,gi⟩:=y9_ hx;have:=hlt i x gi;have hia:i<a:=by omega
   exact List.mem_of_getElem? (i:=i) (by rw[List.getElem?_take_of_lt hia];exact gi)
 have hval:∀x,val (s.back k a).vs x=if x∈s.trail.take a then 1 else if -x∈s.trail.take a then 2 else 0:=fun x=>by
  have e1:val (s.back k a).vs x=if x.natAbs∈(s.trail.drop a).map Int.natAbs then 0 else val s.vs x:=by
   have hl1:(s.back k a).vs.length=s.vs.length:=U.l1;have hv:=U.vs x.natAbs
   change (s.back k a).vs.getD x.natAbs 0=_ at hv
   unfold val;rw[hl1,hv];by_cases q:x.natAbs∈(s.trail.drop a).map Int.natAbs
   ·rw[if_pos q,if_pos q]
    split
    ·rfl
    ·rw[if_neg (by simp)]
   ·rw[if_neg q,if_neg q]
  rw[e1];by_cases q1:x∈s.trail.take a
  ·rw[if_pos q1,if_neg (hnot x q1)]
   exact(ht.tr x).2 (List.mem_of_mem_take q1)
  ·rw[if_neg q1]
   by_cases q2 : -x∈s.trail.take a
   ·rw[if_pos q2,if_neg (by have:=hnot _ q2;rwa [Int.natAbs_neg]at this)]
    exact ht.neg.2 (List.mem_of_mem_take q2)
   ·rw[if_neg q2]
    by_cases q3:x.natAbs∈(s.trail.drop a).map Int.natAbs
    ·rw[if_pos q3]
    ·rw[if_neg q3,ht.zero]
     have hsplit:∀y,y∈s.trail->y∈s.trail.take a\/y∈s.trail.drop a:=fun y hy=>by
      rw[<-List.take_append_drop a s.trail]at hy;exact List.mem_append.1 hy
     refine⟨fun hx=>?_,fun hx=>?_⟩
     ·rcases hsplit _ hx with w|w
      ·exact q1 w
      ·exact q3 (List.mem_map.2 ⟨x,w,rfl⟩)
     ·rcases hsplit _ hx with w|w
      ·exact q2 w
      ·exact q3 (List.mem_map.2 ⟨-x,w,by simp⟩)
 have hlvx:∀x∈s.trail.take a,(s.back k a).lv x=s.lv x:=fun x hx=>U.lv _ (hnot x hx);have hrex:∀x∈s.trail.take a,(s.back k a).re x=s.re x:=fun x hx=>U.re _ (hnot x hx);have hcl:(s.back k a).cls=s.cls:=by show((s.trail.drop a).foldl PS.unsetL s).cls=_;rw[U.eq]
 have hlo:(s.back k a).loose=s.loose:=by show((s.trail.drop a).foldl PS.unsetL s).loose=_;rw[U.eq]
 have hwa:(s.back k a).wat=s.wat:=by show((s.trail.drop a).foldl PS.unsetL s).wat=_;rw[U.eq]
 have hCE:CEq s (s.back k a):=⟨by rw[hcl],fun j d g h1 h2=>by rw[hcl]at h2;exact(CEq.refl s).2 j d g h1 h2⟩;have hget:∀{i:Nat} {x:Int},(s.back k a).trail[i]?=some x->i<a/\s.trail[i]?=some x:=fun {i x} hi=>by
  have hi:(s.trail.take a)[i]?=some x:=hi;have:=y2_ hi;have hia:i<a:=by simp at this;omega
  exact⟨hia,by rwa [List.getElem?_take_of_lt hia]at hi⟩
 have hgot:∀{i:Nat} {x:Int},i<a->s.trail[i]?=some x->(s.back k a).trail[i]?=some x:=fun {i x} hia hi=>by
  show(s.trail.take a)[i]?=some x;rw[List.getElem?_take_of_lt hia];exact hi
 have hmt:∀{i:Nat} {x:Int},i<a->s.trail[i]?=some x->x∈s.trail.take a:=fun {i x} hia hi=>List.mem_of_getElem? (hgot hia hi);obtain⟨h',d1,d2,d3,d4⟩:=S.hd;have hah:a<=h':=by have:=d3 a (List.mem_of_getElem? hm);omega
 refine⟨⟨⟨⟨by show((s.trail.drop a).foldl PS.unsetL s).vs.length=_;rw[U.l1];exact ht.len.vs,by show((s.trail.drop a).foldl PS.unsetL s).lev.length=_;rw[U.l2];exact ht.len.lev,by show((s.trail.drop a).foldl PS.unsetL s).rea.length=_;rw[U.l3];exact ht.len.rea,by rw[hwa];exact ht.len.wat⟩,?_,fun l hl=>ht.rng l (List.mem_of_mem_take hl),fun l=>?_,ht.nd.sublist (List.take_sublist _ _),fun l hl=>?_,fun k' m hm'=>?_,fun i l hl=>?_⟩,S.ci.ceq hCE,⟨by rw[hlo];exact S.li.nd,fun x hx=>?_,fun j d b hj=>?_⟩,fun j d g hd hl i x hi hx=>?_,fun w hw e he=>?_,a,?_,?_,fun m hm'=>?_,fun j d hd=>?_⟩,rfl,rfl,hcl,hlo,hwa,?_,hal,hlvx,hlev,hval⟩
 ·intro x hx
  obtain⟨v,hv⟩:=y9_ hx;have h1:=U.vs v;have h2:((s.trail.drop a).foldl PS.unsetL s).vs.getD v 0=x:=by
   rw[List.getD_eq_getElem?_getD];have:((s.trail.drop a).foldl PS.unsetL s).vs[v]?=some x:=hv;rw[this];rfl
  rw[h2]at h1
  split at h1
  ·exact .inl h1
  ·rw[h1];exact y6x_ ht.ok v
 ·rw[hval]
  show _↔l∈s.trail.take a
  split
  ·rename_i q;exact⟨fun _=>q,fun _=>rfl⟩
  ·rename_i q
   split
   ·exact⟨fun w=>by omega,fun w=>absurd w q⟩
   ·exact⟨fun w=>by omega,fun w=>absurd w q⟩
 ·rw[hlvx l hl]
  have h1:=ht.lv l (List.mem_of_mem_take hl);have h2:=(hlev l (List.mem_of_mem_take hl)).1 hl;show _/\_<=((s.marks.take k).length:Int);rw[List.length_take];omega
 ·have hm1:(s.marks.take k)[k']?=some m:=hm'
  have hkk:k'<k:=by have:=y2_ hm1;simp at this;omega
  rw[List.getElem?_take_of_lt hkk]at hm1;obtain⟨a',g1,⟨w,g2,g3⟩,g4⟩:=ht.mks k' m hm1;have haa:a'<a:=by
   have:=hlt a' w g2;omega
  refine⟨a',g1,⟨w,hgot haa g2,by rw[hlvx w (hmt haa g2)];exact g3⟩,fun i x hx=>?_⟩;obtain⟨hia,hx⟩:=hget hx;rw[hlvx x (hmt hia hx)];exact g4 i x hx
 ·obtain⟨hia,hl⟩:=hget hl
  have hlt2:=hmt hia hl;rcases ht.rs i l hl with ⟨h1,k',h2,h3⟩|⟨id,c,f,h1,h2,h3,h4⟩
  ·have:=(hlev l (List.mem_of_mem_take hlt2)).1 hlt2
   refine .inl ⟨by rw[hrex l hlt2];exact h1,k',by rw[hlvx l hlt2];exact h2,?_⟩;show(s.marks.take k)[k']?=_;rw[List.getElem?_take_of_lt (by omega)];exact h3
  ·refine .inr ⟨id,c,f,by rw[hrex l hlt2];exact h1,by rw[hcl];exact h2,h3,fun x hx hne=>?_⟩
   obtain⟨j,hj,gj⟩:=h4 x hx hne;exact⟨j,hj,hgot (by omega) gj⟩
 ·rw[hlo]at hx;rw[hcl];exact S.li.fl x hx
 ·rw[hcl]at hj;rw[hlo];exact S.li.lf j d b hj
 ·rw[hcl]at hd;rw[hwa];exact S.wi j d g hd hl i x hi hx
 ·rw[hwa]at hw;exact(S.wr w hw e he).ceq hCE
 ·show min s.head (a:Int)=a
  omega
 ·show a<=(s.trail.take a).length
  rw[List.length_take];omega
 ·have hm1:m∈s.marks.take k:=hm'
  obtain⟨k',g⟩:=y9_ hm1;have hkk:k'<k:=by have:=y2_ g;simp at this;omega
  rw[List.getElem?_take_of_lt hkk]at g;obtain⟨a',g1,⟨w,g2,g3⟩,g4⟩:=ht.mks k' m g;have:=hlt a' w g2;omega
 ·rw[hcl]at hd
  have J:=d4 j d hd;refine⟨J.ne,fun x hx=>?_,fun i x y hi hx hy ⟨q,hq1,hq2⟩=>?_⟩
  ·obtain⟨g1,g2⟩:=J.one x hx
   have:=(hlev x g1).2 (by omega);exact⟨this,by rw[hlvx x this];exact g2⟩
  ·obtain⟨_,hq3⟩:=hget hq2
   obtain⟨g1,g2⟩:=J.two i x y hi hx hy ⟨q,by omega,hq3⟩;have hxm:=hmt hq1 hq3;have hxl:=(hlev _ (List.mem_of_mem_take hxm)).1 hxm;rw[PS.lv_neg]at hxl;have hym:=(hlev y g1).2 (by omega);have:=hlvx _ hxm;rw[PS.lv_neg,PS.lv_neg]at this;exact⟨hym,by rw[hlvx y hym,this];exact g2⟩
 ·show min s.head (a:Int)=a
  omega
end
end
section
open Go
theorem y2j_:∀(n:Nat) (xs:List Nat),xs.Nodup->(∀x∈xs,1<=x/\x<=n)->xs.length<=n
 |0,xs,_,h=>by
  cases xs with
  |nil=>simp
  |cons a t=>have:=h a (by simp);omega
 | n+1,xs,hn,h=>by
  have h1:=y2j_ n (xs.erase (n+1)) (hn.erase _) fun x hx=>by
   have h2:=h x (List.mem_of_mem_erase hx);have h3:x≠n+1:=fun e=>by subst e;exact(hn.not_mem_erase) hx
   omega
  have h2:=List.length_erase (a:=n+1) (l:=xs)
  split at h2<;>omega
section
variable{n id h k:Nat}{s s0 s1 s':PS}{l x y z e f out:Int}{c c' l' nw P:List Int}{b fl:Bool}
theorem TrI.lenT(h:TrI n s):s.trail.length<=n:=by
 have:=y2j_ n (s.trail.map Int.natAbs) ?_ ?_
 ·simpa using this
 ·rw[List.Nodup,List.pairwise_map]
  exact h.nd.imp_of_mem fun ha hb hne e=>hne (h.abs ha hb e)
 ·intro x hx
  obtain⟨l,hl,rfl⟩:=List.mem_map.1 hx;have:=yb_ (h.rng l hl);omega
theorem TrI.lenM(h:TrI n s):s.marks.length<=s.trail.length:=by
 refine Nat.not_lt.1 fun hlt=>?_;have key:∀(k a:Nat),s.marks[k]?=some (a:Int)->(k:Int)<=a:=by
  intro k
  induction k with
  |zero=>intro a _;omega
  |succ k ih=>
   intro a ha;obtain⟨m,hm⟩:=y3_ (xs:=s.marks) (i:=k) (by have:=y2_ ha;omega);obtain⟨b,e1,⟨w,g1,g2⟩,g3⟩:=h.mks k m hm;obtain⟨a',e2,⟨u,q1,q2⟩,q3⟩:=h.mks (k+1) _ ha;have e2:a=a':=by omega
   subst e2 e1;have h1:=ih b hm;have h2:=q3 b w g1;omega
 obtain⟨m,hm⟩:=y3_ (xs:=s.marks) (i:=s.trail.length) hlt;obtain⟨a,e,⟨w,g1,g2⟩,g3⟩:=h.mks _ m hm;subst e;have:=key _ a hm;have:=y2_ g1;omega
def PS.addC(s:PS)(l:List Int):PS:={ s with cls:=s.cls++[(l,true,true)],loose:=s.loose++[(s.cls.length:Int)],wat:=((if 1<l.length then l.take 2 else[]).foldl (fun(q:PS) x=>q.watch x s.cls.length) s).wat }
theorem y7n_(id:Nat):∀(l:List Int) (s t:PS),s.wat=t.wat->(l.foldl (fun(q:PS) x=>q.watch x id) s).wat=(l.foldl (fun(q:PS) x=>q.watch x id) t).wat
 |[],s,t,e=>e
 |a::l,s,t,e=>y7n_ id l _ _ (by simp only[PS.watch];rw[e])
theorem ydl_(id:Nat):∀(l:List Int) (s:PS),l.foldl (fun(q:PS) x=>q.watch x id) s={ s with wat:=(l.foldl (fun(q:PS) x=>q.watch x id) s).wat }
 |[],s=>rfl
 |a::l,s=>by have:=ydl_ id l (s.watch a id);rw[List.foldl_cons,this];rfl
theorem ygn_(s:PS)(l:List Int):s.add l=s.addC l:=by
 unfold PS.add PS.addC;generalize (if 1<l.length then l.take 2 else[])=w;rw[ydl_,y7n_ s.cls.length w { s with cls:=s.cls++[(l,true,false)] } s rfl];unfold PS.look;simp
theorem y9u_(id:Nat):∀(l nw:List Int) (s s1:PS),WaX s s1 id nw->(∀x∈l,wAt x<s.wat.length)->WaX s (l.foldl (fun(q:PS) x=>q.watch x id) s1) id (nw++l)
 |[],nw,s,s1,h,_=>by simpa using h
 |a::l,nw,s,s1,h,hw=>by
  have:=y9u_ id l (nw++[a]) s _ (h.watch (hw a (by simp))) fun x hx=>hw x (by simp[hx]);simpa using this
theorem y2k_{α:Type}{xs:List α}{a b:α}{i:Nat}(h:(xs++[a])[i]?=some b):xs[i]?=some b\/(i=xs.length/\b=a):=by
 rcases Nat.lt_trichotomy i xs.length with hl|rfl|hl
 ·left;rwa [List.getElem?_append_left hl]at h
 ·right
  rw[List.getElem?_append_right (Nat.le_refl _)]at h;simp at h;exact⟨rfl,h.symm⟩
 ·have:=y2_ h
  simp at this;omega
theorem StI.addC(S:StI n s)(hc:∀x∈l',isL x n=true)(hd:(l'.map Int.natAbs).Nodup):StI n (s.addC l')/\(s.addC l').ent<=s.ent+2:=by
 have hwl:∀x∈(if 1<l'.length then l'.take 2 else[]),wAt x<s.wat.length:=fun x hx=>by
  rw[S.ti.len.wat]
  split at hx
  ·exact y56_ (hc x (List.mem_of_mem_take hx))
  ·cases hx
 have X:=y9u_ s.cls.length (if 1<l'.length then l'.take 2 else[]) [] s s (WaX.refl s _) hwl;rw[List.nil_append]at X;have ewat:(s.addC l').wat=((if 1<l'.length then l'.take 2 else[]).foldl (fun(q:PS) x=>q.watch x s.cls.length) s).wat:=rfl;have hget:∀{j:Nat} {d:List Int×Bool×Bool},(s.addC l').cls[j]?=some d->s.cls[j]?=some d\/(j=s.cls.length/\d=(l',true,true)):=fun h=>y2k_ h;have hgot:∀{j:Nat} {d:List Int×Bool×Bool},s.cls[j]?=some d->(s.addC l').cls[j]?=some d:=fun {j d} h=>by
  show(s.cls++[(l',true,true)])[j]?=_;rw[List.getElem?_append_left (y2_ h)];exact h
 have hlast:(s.addC l').cls[s.cls.length]?=some (l',true,true):=by show(s.cls++[(l',true,true)])[s.cls.length]?=_;simp
 have ht:=S.ti;refine⟨⟨⟨⟨ht.len.vs,ht.len.lev,ht.len.rea,by rw[ewat,X.len];exact ht.len.wat⟩,ht.ok,ht.rng,ht.tr,ht.nd,ht.lv,ht.mks,fun i l hl=>?_⟩,fun j d g h1=>?_,⟨?_,fun x hx=>?_,fun j d b h1=>?_⟩,fun j d g h1 hl i x hi hx=>?_,fun w hw e he=>?_,?_⟩,?_⟩
 ·rcases ht.rs i l hl with q|⟨id,c,f,h1,h2,h3,h4⟩
  ·exact .inl q
  ·exact .inr ⟨id,c,f,h1,hgot h2,h3,h4⟩
 ·rcases hget h1 with q|⟨_,q⟩
  ·exact S.ci j d g q
  ·cases q;exact⟨hc,hd⟩
 ·show([]++(s.loose++[(s.cls.length:Int)])).Nodup
  rw[List.nil_append];refine List.nodup_append.2 ⟨by simpa using S.li.nd,by simp,fun x hx y hy e=>?_⟩;obtain⟨j,d,b,e1,e2⟩:=S.li.fl x (by simpa using hx);have:=y2_ e2;rw[List.mem_singleton.1 hy]at e;omega
 ·have hx:x∈s.loose++[(s.cls.length:Int)]:=hx
  rcases List.mem_append.1 hx with q|q
  ·obtain⟨j,d,b,e1,e2⟩:=S.li.fl x (by simpa using q)
   exact⟨j,d,b,e1,hgot e2⟩
  ·exact⟨s.cls.length,l',true,List.mem_singleton.1 q,hlast⟩
 ·show(j:Int)∈[]++(s.loose++[(s.cls.length:Int)])
  rcases hget h1 with q|⟨q,_⟩
  ·have:=S.li.lf j d b q
   simp at this⊢;exact .inl this
  ·simp[q]
 ·rw[ewat,X.mem]
  rcases hget h1 with q|⟨q1,q2⟩
  ·rcases S.wi j d g q hl i x hi hx with w|w
   ·exact .inl (.inl w)
   ·exact w.elim
  ·cases q2
   left;right;refine⟨?_,by rw[q1]⟩;rw[if_pos (by omega)];exact List.mem_of_getElem? (i:=i) (by rw[List.getElem?_take_of_lt hi];exact hx)
 ·have hW:WaE { s with cls:=s.cls++[(l',true,true)] } e:=by
   have hmem:∀e,WaE s e->WaE { s with cls:=s.cls++[(l',true,true)] } e:=fun e ⟨id,c,b,f,h1,h2,h3⟩=>⟨id,c,b,f,h1,hgot h2,h3⟩;rw[ewat]at hw;have Y:=y9u_ s.cls.length (if 1<l'.length then l'.take 2 else[]) [] { s with cls:=s.cls++[(l',true,true)] } { s with cls:=s.cls++[(l',true,true)] } (WaX.refl _ _) hwl;rw[List.nil_append]at Y;have hR:=Y.wr (fun hne=>⟨s.cls.length,l',true,true,rfl,hlast,fun _=>by
    split at hne
    ·rename_i q;exact q
    ·exact absurd rfl hne⟩) (fun w hw e he=>hmem e (S.wr w hw e he))
   rw[y7n_ s.cls.length _ s { s with cls:=s.cls++[(l',true,true)] } rfl]at hw;obtain⟨id,c,b,f,h1,h2,h3⟩:=hR w hw e he;refine⟨id,c,b,f,h1,?_,h3⟩;rw[Y.eq]at h2;exact h2
  obtain⟨id,c,b,f,h1,h2,h3⟩:=hW;exact⟨id,c,b,f,h1,h2,h3⟩
 ·obtain⟨h,e1,e2,e3,e4⟩:=S.hd
  refine⟨h,e1,e2,e3,fun j d h1=>?_⟩;rcases hget h1 with q|⟨_,q⟩
  ·exact⟨(e4 j d q).ne,(e4 j d q).one,(e4 j d q).two⟩
  ·cases q
 ·have h1:=X.ent
  have h2:(s.addC l').ent=((if 1<l'.length then l'.take 2 else[]).foldl (fun(q:PS) x=>q.watch x s.cls.length) s).ent:=rfl;rw[h2,h1]
  split
  ·simp;omega
  ·simp
def PS.dropC(s:PS)(id:Nat)(f:Bool):PS:={ s with cls:=s.cls.set id ([],false,f) }
theorem StI.dropC(S:StI n s)(hc:s.cls[id]?=some (c,b,fl))(hr:∀x∈s.trail,x∈c->s.re x≠id):StI n (s.dropC id fl):=by
 have hlt:=y2_ hc;have hid:(s.dropC id fl).cls[id]?=some ([],false,fl):=by show(s.cls.set id ([],false,fl))[id]?=_;rw[List.getElem?_set,if_pos rfl,if_pos hlt]
 have hoth:∀j,j≠id->(s.dropC id fl).cls[j]?=s.cls[j]?:=fun j hj=>by show(s.cls.set id ([],false,fl))[j]?=_;rw[List.getElem?_set,if_neg fun e=>hj e.symm]
 have ht:=S.ti;refine⟨⟨⟨ht.len.vs,ht.len.lev,ht.len.rea,ht.len.wat⟩,ht.ok,ht.rng,ht.tr,ht.nd,ht.lv,ht.mks,fun i l hl=>?_⟩,fun j d g h1=>?_,⟨S.li.nd,fun x hx=>?_,fun j d b' h1=>?_⟩,fun j d g h1 hl i x hi hx=>?_,fun w hw e he=>?_,?_⟩
 ·rcases ht.rs i l hl with q|⟨id',c',f',h1,h2,h3,h4⟩
  ·exact .inl q
  ·refine .inr ⟨id',c',f',h1,?_,h3,h4⟩
   rw[hoth id' fun e=>?_]
   ·exact h2
   ·subst e
    rw[hc]at h2;have:c=c':=by injection h2 with h2;exact congrArg (·.1) h2
    subst this;exact hr l (List.mem_of_getElem? hl) h3 h1
 ·by_cases e:j=id
  ·subst e;rw[hid]at h1;cases h1
  ·rw[hoth j e]at h1;exact S.ci j d g h1
 ·obtain⟨j,d,b',e1,e2⟩:=S.li.fl x hx
  by_cases e:j=id
  ·subst e
   rw[hc]at e2;have:fl=true:=by injection e2 with e2;exact congrArg (·.2.2) e2
   subst this;exact⟨j,[],false,e1,hid⟩
  ·exact⟨j,d,b',e1,by rw[hoth j e];exact e2⟩
 ·by_cases e:j=id
  ·subst e
   rw[hid]at h1;have:fl=true:=by injection h1 with h1;exact congrArg (·.2.2) h1
   subst this;exact S.li.lf j c b hc
  ·rw[hoth j e]at h1;exact S.li.lf j d b' h1
 ·by_cases e:j=id
  ·subst e;rw[hid]at h1;cases h1
  ·rw[hoth j e]at h1;exact S.wi j d g h1 hl i x hi hx
 ·obtain⟨j,d,b',g,e1,e2,e3⟩:=S.wr w hw e he
  by_cases q:j=id
  ·subst q;exact⟨j,[],false,fl,e1,hid,fun w=>by cases w⟩
  ·exact⟨j,d,b',g,e1,by rw[hoth j q];exact e2,e3⟩
 ·obtain⟨h,e1,e2,e3,e4⟩:=S.hd
  refine⟨h,e1,e2,e3,fun j d h1=>?_⟩;by_cases e:j=id
  ·subst e;rw[hid]at h1;cases h1
  ·rw[hoth j e]at h1
   exact⟨(e4 j d h1).ne,(e4 j d h1).one,(e4 j d h1).two⟩
theorem y87_{α:Type}{xs ys:List α}{d:α}{v:Nat}(h:v<xs.length):(xs++ys).getD v d=xs.getD v d:=by
 rw[List.getD_eq_getElem?_getD,List.getD_eq_getElem?_getD,List.getElem?_append_left h]
theorem y7u_{α:Type}{xs:List α}{d:α}{v m:Nat}:(xs++List.replicate m d).getD v d=xs.getD v d:=by
 rw[List.getD_eq_getElem?_getD,List.getD_eq_getElem?_getD];by_cases h:v<xs.length
 ·rw[List.getElem?_append_left h]
 ·rw[List.getElem?_append_right (by omega),List.getElem?_eq_none (l:=xs) (by omega),List.getElem?_replicate]
  split<;>rfl
theorem ygt_{vs:List Int}{m:Nat}(l:Int):val (vs++List.replicate m 0) l=val vs l:=by
 unfold val;rw[y7u_];have h0:vs.length<=l.natAbs->vs.getD l.natAbs 0=0:=fun h=>by rw[List.getD_eq_getElem?_getD,List.getElem?_eq_none h];rfl
 simp only[List.length_append,List.length_replicate];by_cases h1:l=0
 ·simp[h1]
 ·by_cases h2:vs.length<=l.natAbs
  ·rw[h0 h2];simp
  ·rw[if_neg (show¬(l=0\/vs.length+m<=l.natAbs) by omega),if_neg (show¬(l=0\/vs.length<=l.natAbs) by omega)]
theorem ybb_{m:Nat}(h:isL l n=true)(hm:n<=m):isL l m=true:=by
 obtain⟨h1,h2,h3⟩:=ym_.1 h;exact ym_.2 ⟨h1,by omega,by omega⟩
theorem StI.grow(S:StI n s)(m:Nat):StI (n+m) (s.grow m)/\(s.grow m).ent=s.ent:=by
 have ht:=S.ti;obtain⟨q1,q2,q3,q4⟩:=ht.len;have hlv:∀x∈s.trail,(s.grow m).lv x=s.lv x:=fun x hx=>by
  have:=yb_ (ht.rng x hx);exact y87_ (by omega)
 have hre:∀x∈s.trail,(s.grow m).re x=s.re x:=fun x hx=>by
  have:=yb_ (ht.rng x hx);exact y87_ (by omega)
 have hwat:∀k,(s.grow m).wat.getD k []=s.wat.getD k []:=fun k=>y7u_;refine⟨⟨⟨⟨?_,?_,?_,?_⟩,?_,fun l hl=>ybb_ (ht.rng l hl) (by omega),fun l=>?_,ht.nd,fun l hl=>?_,fun k a hk=>?_,fun i l hl=>?_⟩,fun j d g h1=>?_,⟨S.li.nd,S.li.fl,S.li.lf⟩,fun j d g h1 hl i x hi hx=>?_,fun w hw e he=>?_,?_⟩,?_⟩
 ·simp[PS.grow,q1];omega
 ·simp[PS.grow,q2];omega
 ·simp[PS.grow,q3];omega
 ·simp[PS.grow,q4];omega
 ·intro x hx
  rcases List.mem_append.1 hx with w|w
  ·exact ht.ok x w
  ·exact .inl (List.eq_of_mem_replicate w)
 ·show val (s.vs++List.replicate m 0) l=1↔_
  rw[ygt_];exact ht.tr l
 ·rw[hlv l hl];exact ht.lv l hl
 ·obtain⟨a',e,⟨w,g1,g2⟩,g3⟩:=ht.mks k a hk
  exact⟨a',e,⟨w,g1,by rw[hlv w (List.mem_of_getElem? g1)];exact g2⟩,fun i x hx=>by rw[hlv x (List.mem_of_getElem? hx)];exact g3 i x hx⟩
 ·rcases ht.rs i l hl with ⟨h1,k',h2,h3⟩|⟨id,c,f,h1,h2,h3,h4⟩
  ·exact .inl ⟨by rw[hre l (List.mem_of_getElem? hl)];exact h1,k',by rw[hlv l (List.mem_of_getElem? hl)];exact h2,h3⟩
  ·exact .inr ⟨id,c,f,by rw[hre l (List.mem_of_getElem? hl)];exact h1,h2,h3,h4⟩
 ·obtain⟨h2,h3⟩:=S.ci j d g h1
  exact⟨fun l hl=>ybb_ (h2 l hl) (by omega),h3⟩
 ·rw[hwat];exact S.wi j d g h1 hl i x hi hx
 ·rcases List.mem_append.1 hw with q|q
  ·exact S.wr w q e he
  ·rw[List.eq_of_mem_replicate q]at he;cases he
 ·obtain⟨h,e1,e2,e3,e4⟩:=S.hd
  refine⟨h,e1,e2,e3,fun j d h1=>?_⟩;have J:=e4 j d h1;refine⟨J.ne,fun x hx=>?_,fun i x y hi hx hy ⟨q,hq1,hq2⟩=>?_⟩
  ·obtain⟨g1,g2⟩:=J.one x hx
   exact⟨g1,by rw[hlv x g1];exact g2⟩
  ·obtain⟨g1,g2⟩:=J.two i x y hi hx hy ⟨q,hq1,hq2⟩
   have:=hlv _ (List.mem_of_getElem? hq2);rw[PS.lv_neg,PS.lv_neg]at this;exact⟨g1,by rw[hlv y g1,this];exact g2⟩
 ·simp[PS.ent,PS.grow]
end
end
section
open Go
theorem y6r_{l:Int}{n:Nat}(h:isL l n=true)(hn:n<=4000):inB l=true:=by
 have:=ym_.1 h;simp only[inB,Bool.and_eq_true,decide_eq_true_eq];omega
section
variable{σ τ:Heap}{T T':Tg}{lp n id:Nat}{h:PH}{s:PS}{l:Int}{c c':List Int}{b f:Bool}
theorem PropH.asgv(p:PropH σ T lp h s):AsgV σ (.ptr h.la 0) s.vs:=⟨h.la,h.xa,rfl,p.asg.up,p.vs.slT⟩
theorem PropH.val(p:PropH σ T lp h s)(ht:TrI n s)(hn:n<=4000)(hl:isL l n=true):S.z3 (.ptr h.la 0) l σ=some (A.val s.vs l):=
 y7r_ p.asgv ht.ok (by have:=ht.len.vs;omega) (by have:=ht.len.vs;omega) (y6r_ hl hn)
theorem y1u_(p:PropH σ T lp h s)(ht:TrI n s)(hn:n<=4000)(hl:isL l n=true):S.z82 (.ptr lp 0) l σ=some (val s.vs l):=by
 obtain⟨r,e,rfl⟩:W (S.z82 (.ptr lp 0) l σ) fun r=>r=val s.vs l:=by
  have k1:=p.obj;unfold S.z82
  repeat' with_reducible first|refine W.bind ?_|refine W.asV ?_|refine W.fldp ?_|refine W.nck ?_|refine W.u0 ?_
  refine W.to (p.val ht hn hl) ?_
  repeat' with_reducible refine W.ret ?_
  rfl
 exact e
theorem yk_{σ:Heap}(hl:isL l n=true)(hn:n<=4000):S.z55 l σ=some (l.natAbs:Int):=y9b_ (by have:=ym_.1 hl;omega)
theorem TrI.lget(ht:TrI n s)(hl:isL l n=true):s.lev[l.natAbs]?=some (s.lv l):=by
 have:=yb_ hl;have:=ht.len.lev;unfold PS.lv;rw[List.getD_eq_getElem?_getD,List.getElem?_eq_getElem (by omega)];rfl
theorem TrI.rget(ht:TrI n s)(hl:isL l n=true):s.rea[l.natAbs]?=some (s.re l):=by
 have:=yb_ hl;have:=ht.len.rea;unfold PS.re;rw[List.getD_eq_getElem?_getD,List.getElem?_eq_getElem (by omega)];rfl
theorem ydf_(p:PropH σ T lp h s)(ht:TrI n s)(hn:n<=4000)(hl:isL l n=true):S.z91 (.ptr lp 0) l σ=some (s.rank l):=by
 obtain⟨r,e,rfl⟩:W (S.z91 (.ptr lp 0) l σ) fun r=>r=s.rank l:=by
  have k1:=p.obj;have k4:=p.lev;have k7:=p.marks;have hm:=ht.lenM;have hm2:=ht.lenT;have hg:=ht.lget hl;have hl0:=yb_ hl;have hle:=ht.len.lev;unfold S.z91 PS.rank
  repeat' with_reducible first|refine W.bind ?_|refine W.asV ?_|refine W.fldp ?_|refine W.nck ?_|refine W.u0 ?_
  refine W.to (p.val ht hn hl) ?_
  repeat' with_reducible refine W.ret ?_
  by_cases h2:val s.vs l=2
  ·rw[if_pos h2]
   refine W.condF (by simp[h2]) ?_
   repeat' with_reducible first|refine W.bind ?_|refine W.asV ?_|refine W.fldp ?_|refine W.nck ?_|refine W.u0 ?_
   refine W.to (yk_ hl hn) ?_
   repeat' with_reducible first|refine W.ret ?_|refine W.u2 ?_
   rfl
  ·rw[if_neg h2]
   refine W.condT (by simp[h2]) ?_
   repeat' with_reducible first|refine W.ret ?_|refine W.asV ?_|refine W.fldp ?_|refine W.nck ?_|refine W.u0 ?_|refine W.u3 ?_
   rw[wrapS]<;>omega
 exact e
theorem ixOn{R:Type}{Q:R->Prop}{α:Type}{v:Vw α}{xs:List α}{x:AVal}{i:Int}(h:SlV v σ xs x)(h0:0<=i)(h1:i<xs.length){sz:Nat}{K:AVal->Option R}(c:W (K (ptrK x sz i.toNat 0)) Q)(hs:sz=v.sz:=by rfl):W (ixA σ x sz i K) Q:=by
 have:=W.ixO (i:=i.toNat) h (by omega) c hs
 rwa [Int.toNat_of_nonneg h0]at this
theorem yie_{t u la:Nat}{xa:AVal}{vs:List Int}(h1:Loc (σ.at T t) la [xa])(h2:Own .i8 (σ.at T u) vs xa)(hn:Tn σ T)(hv:Vok vs)(hlen:vs.length=n+1)(hn4:n<=4000)(hl:isL l n=true)(hf:A.val vs l≠2) :
  W (S.z1 (.ptr la 0) l σ) fun r=>Own .i8 (r.2.at T u) (setV vs l) xa/\Hop (only u) σ T r.2 T:=by
 have hl0:=yb_ hl;have hA:AsgV σ (.ptr la 0) vs:=⟨la,xa,rfl,h1.up,h2.slT⟩;have w:IntKind.i64.wrap ((vs.length:Int)-1)=(vs.length:Int)-1:=by rw[wrapS]<;>omega
 unfold S.z1
 repeat' with_reducible first|refine W.bind ?_|refine W.asV ?_|refine W.fldp ?_|refine W.nck ?_|refine W.u0 ?_|refine W.u3 ?_
 rw[w,show(vs.length:Int)-1=(n:Int) by omega];refine W.to (y1o_ (by omega) (by omega)) ?_
 repeat' with_reducible refine W.ret ?_
 refine W.condF (by simp[hl]) ?_
 repeat' (with_reducible refine W.bind ?_)
 refine W.to (y7r_ hA hv (by omega) (by omega) (y6r_ hl hn4)) ?_
 repeat' with_reducible refine W.ret ?_
 refine W.condF (by simpa using hf) ?_;have hset:∀x:Int,x=(if 0<l then 1 else 2)->vs.set l.natAbs x=setV vs l:=fun x e=>by rw[e];rfl
 repeat' (with_reducible refine W.bind ?_)
 (with_reducible refine W.cnd (fun hc=>?_) (fun hc=>?_)<;>(try simp only[qq,Kd.ty]at hc)<;>(try (exfalso;omega)))
 ·repeat' with_reducible first|refine W.asV ?_|refine W.fldp ?_|refine W.nck ?_|refine W.u0 ?_
  refine ixOn h2.slT (by omega) (by omega) ?_;rw[show l.toNat=l.natAbs by omega];refine W.own_set Vw.i8_flat h2 hn (List.getElem?_eq_getElem (show l.natAbs<vs.length by omega)) (k:=0) [.int .i8 vs[l.natAbs]] (1:Int) (Nat.le_refl _) (fun _ h=>h) (fun _=>rfl) fun τ h2 H _=>?_
  repeat' with_reducible refine W.ret ?_
  exact⟨by rw[<-hset 1 (by rw[if_pos (by omega)])];exact h2,H⟩
 ·have w2:IntKind.i64.wrap (0-l) = -l:=by rw[wrapS]<;>omega
  repeat' with_reducible first|refine W.asV ?_|refine W.fldp ?_|refine W.nck ?_|refine W.u0 ?_
  rw[w2];refine ixOn h2.slT (by omega) (by omega) ?_;rw[show(-l).toNat=l.natAbs by omega];refine W.own_set Vw.i8_flat h2 hn (List.getElem?_eq_getElem (show l.natAbs<vs.length by omega)) (k:=0) [.int .i8 vs[l.natAbs]] (2:Int) (Nat.le_refl _) (fun _ h=>h) (fun _=>rfl) fun τ h2 H _=>?_
  repeat' with_reducible refine W.ret ?_
  exact⟨by rw[<-hset 2 (by rw[if_neg (by omega)])];exact h2,H⟩
theorem yb3_(p:PropH σ T lp h s)(hn:Tn σ T)(hlen:PLen (n+1) s)(hok:Vok s.vs)(hlt:s.trail.length<=100000)(hn4:n<=4000)(hl:isL l n=true)(hf:val s.vs l≠2){mk:List Int}(hm:mk=s.marks)(hml:mk.length<=100000){r:Int} :
  W (S.z92 (.ptr lp 0) l r σ) fun r'=>∃T' h',Hop pI σ T r'.2 T'/\PropH r'.2 T' lp h' (s.setL l r)/\h'.cs=h.cs:=by
 have hl0:=yb_ hl;have e2:=hlen.lev;have e3:=hlen.rea;obtain⟨k1,k2,k3,k4,k5,k6,k7,k8,k9,k10,k11,k12,k13⟩:=p;unfold S.z92
 repeat' with_reducible first|refine W.bind ?_|refine W.asV ?_|refine W.fldp ?_|refine W.nck ?_|refine W.u0 ?_
 refine W.mono (yie_ k2 k3 hn hok hlen.vs hn4 hl hf) fun r' hr=>?_;obtain⟨r',τ1⟩:=r';obtain⟨k3,H1⟩:=hr;dsimp only at k3 H1⊢;have HH:Hop pI σ T τ1 T:=(Hop.refl hn).inP H1;replace k1:=k1.hop H1;replace k2:=k2.hop H1;replace k4:=k4.hop H1;replace k5:=k5.hop H1;replace k6:=k6.hop H1;replace k7:=k7.hop H1;replace k8:=k8.hop H1;replace k9:=k9.hop H1;replace k10:=k10.hop H1;replace k11:=k11.hop H1;replace k13:=k13.hop H1;replace hn:=H1.tn
 repeat' (with_reducible refine W.bind ?_)
 refine W.to (yk_ hl hn4) ?_
 repeat' with_reducible first|refine W.ret ?_|refine W.asV ?_|refine W.fldp ?_|refine W.nck ?_|refine W.u0 ?_|refine W.u3 ?_
 refine W.ixO k4.slT (i:=l.natAbs) (by omega) ?_;refine W.own_setI k4 hn (by omega) fun τ2 k4 H2 _=>?_;replace HH:=HH.inP H2;replace k1:=k1.hop H2;replace k2:=k2.hop H2;replace k3:=k3.hop H2;replace k5:=k5.hop H2;replace k6:=k6.hop H2;replace k7:=k7.hop H2;replace k8:=k8.hop H2;replace k9:=k9.hop H2;replace k10:=k10.hop H2;replace k11:=k11.hop H2;replace k13:=k13.hop H2;replace hn:=H2.tn;refine W.ixO k5.slT (i:=l.natAbs) (by omega) ?_;refine W.own_setI k5 hn (by omega) fun τ3 k5 H3 _=>?_;replace HH:=HH.inP H3;replace k1:=k1.hop H3;replace k2:=k2.hop H3;replace k3:=k3.hop H3;replace k4:=k4.hop H3;replace k6:=k6.hop H3;replace k7:=k7.hop H3;replace k8:=k8.hop H3;replace k9:=k9.hop H3;replace k10:=k10.hop H3;replace k11:=k11.hop H3;replace k13:=k13.hop H3;replace hn:=H3.tn
 repeat' with_reducible first|refine W.asV ?_|refine W.fldp ?_|refine W.nck ?_|refine W.u0 ?_
 refine W.own_push (bytes:=8) Vw.int_flat k6 hn (a:=l) rfl (by omega) (by omega) fun x2 τ4 T2 k6 H4=>?_;replace HH:=HH.inP H4;replace k1:=k1.hop H4;replace k2:=k2.hop H4;replace k3:=k3.hop H4;replace k4:=k4.hop H4;replace k5:=k5.hop H4;replace k7:=k7.hop H4;replace k8:=k8.hop H4;replace k9:=k9.hop H4;replace k10:=k10.hop H4;replace k11:=k11.hop H4;replace k13:=k13.hop H4;replace hn:=H4.tn
 repeat' with_reducible first|refine W.fldp ?_|refine W.nck ?_|refine W.u4 ?_
 refine W.stT k1 hn (Nat.le_of_ble_eq_true (by rfl)) fun τ5 H5 k1 hnτ5=>?_;replace HH:=HH.inP H5;replace k2:=k2.hop H5;replace k3:=k3.hop H5;replace k4:=k4.hop H5;replace k5:=k5.hop H5;replace k6:=k6.hop H5;replace k7:=k7.hop H5;replace k8:=k8.hop H5;replace k9:=k9.hop H5;replace k10:=k10.hop H5;replace k11:=k11.hop H5;replace k13:=k13.hop H5;replace hn:=H5.tn
 repeat' with_reducible refine W.ret ?_
 exact⟨T2,{ h with xt:=x2 },HH,⟨k1,k2,k3,k4,k5,k6,k7,k8,k9,k10,k11,k12,k13⟩,rfl⟩
theorem yad_(p:PropH σ T lp h s)(hn:Tn σ T)(ht:TrI n s)(hn4:n<=4000)(hl:isL l n=true)(hf:A.val s.vs l≠2){mk:List Int}(hm:mk=s.marks)(hml:mk.length<=100000){r:Int} :
  W (S.z92 (.ptr lp 0) l r σ) fun r'=>∃T' h',Hop pI σ T r'.2 T'/\PropH r'.2 T' lp h' (s.setL l r)/\h'.cs=h.cs:=yb3_ p hn ht.len ht.ok (by have:=ht.lenT;omega) hn4 hl hf hm hml
def PS.putC(s:PS)(id:Nat)(c:List Int)(b f:Bool):PS:={ s with cls:=s.cls.set id (c,b,f) }
theorem PropH.lits{y:AVal}(p:PropH σ T lp h s)(hc:s.cls[id]?=some (c,b,f))(hy:h.cs[id]?=some (y,b,f))(H:Hop (only (50+2*id)) σ T τ T')(hO:Own .int (τ.at T' (50+2*id)) c' y):PropH τ T' lp h (s.putC id c' b f):=by
 have hcf:=p.cf.hopAt H hO;refine⟨p.obj.hop H (by simp;omega),p.asg.hop H (by simp;omega),p.vs.hop H (by simp;omega),p.lev.hop H (by simp;omega),p.rea.hop H (by simp;omega),p.trail.hop H (by simp;omega),p.marks.hop H (by simp;omega),p.cls.hop H (by simp;omega),p.wat.hop H (by simp;omega),p.loose.hop H (by simp;omega),?_,?_,p.wf.hop H (by intro i;simp;omega)⟩
 ·show Fam τ T' 50 ((s.cls.set id (c',b,f)).map (·.1)) (h.cs.map (·.1))
  rw[List.map_set];have e:(h.cs.map (·.1)).set id y=h.cs.map (·.1):=by
   have:=y1e_ (f:=(·.1)) (b:=(y,b,f)) hy rfl
   rwa [List.map_set]at this
  rw[e]at hcf;exact hcf
 ·show h.cs.map (·.2)=(s.cls.set id (c',b,f)).map (·.2)
  rw[y1e_ (f:=(·.2)) (b:=(c',b,f)) hc rfl];exact p.cb
theorem y1i_(hc:s.cls[id]?=some (c,b,f)){c':List Int}{b' f':Bool}:(s.putC id c' b' f').cls[id]?=some (c',b',f'):=by
 show(s.cls.set id (c',b',f'))[id]?=_;rw[List.getElem?_set,if_pos rfl,if_pos (y2_ hc)]
theorem y85_{c' d:List Int}{b' f' b2 f2:Bool}:(s.putC id c' b' f').putC id d b2 f2=s.putC id d b2 f2:=by
 simp[PS.putC]
theorem y6u_(hc:s.cls[id]?=some (c,b,f)):s.putC id c b f=s:=by
 have:s.cls.set id (c,b,f)=s.cls:=by
  obtain⟨h1,h2⟩:=List.getElem?_eq_some_iff.1 hc;rw[<-h2,List.set_getElem_self]
 unfold PS.putC;rw[this]
theorem ybx_{R:Type}{Q:R->Prop}{y:AVal}(p:PropH σ T lp h s)(hn:Tn σ T)(hc:s.cls[id]?=some (c,b,f))(hy:h.cs[id]?=some (y,b,f)){i j:Nat}(hi:i<c.length)(hj:j<c.length){a d:Int}(ha:c[j]?=some a)(hd:c[i]?=some d){K:Heap->Option R}
  (k:∀τ,Hop pI σ T τ T->PropH τ T lp h (s.putC id (swapL c i j) b f)->W (K τ) Q):W (ixA σ y 1 (i:Int) fun p1=>stC σ p1 [.int .i64 a] fun σ1=>ixA σ1 y 1 (j:Int) fun p2=>stC σ1 p2 [.int .i64 d] fun σ2=>K σ2) Q:=by
 obtain⟨z,hz,hO⟩:=p.cget hc;have:z=y:=by rw[hy]at hz;injection hz with hz;exact(congrArg (·.1) hz).symm
 subst this;refine W.ixO hO.slT (i:=i) hi ?_;refine W.own_setI hO hn hi fun τ1 hO H1 _=>?_;refine W.ixO hO.slT (i:=j) (by simpa using hj) ?_;refine W.own_setI hO H1.tn (by simpa using hj) fun τ2 hO H2 _=>?_;have e:(c.set i a).set j d=swapL c i j:=by
  unfold swapL;rw[List.getD_eq_getElem?_getD,List.getD_eq_getElem?_getD,ha,hd];rfl
 rw[e]at hO;have H:=H1.trans H2;exact k τ2 (H.sub fun q hq=>by simp at hq;subst hq;simp[pI]) (p.lits hc hy H hO)
theorem ydk_{y:AVal}{k:Nat}(p:PropH σ T lp h s)(hn:Tn σ T)(ht:TrI n s)(hn4:n<=4000)(hL:∀x∈c,isL x n=true)(hc:s.cls[id]?=some (c,b,f))(hy:h.cs[id]?=some (y,b,f))(hk:k<c.length)(hcl:c.length<=1000000) :
  W (S.z87 (.ptr lp 0) y (k:Int) σ) fun r=>∃j,k<=j/\j<c.length/\(∀i x z,k<=i->c[i]?=some x->c[j]?=some z->s.rank x<=s.rank z)/\Hop pI σ T r.2 T/\PropH r.2 T lp h (s.putC id (swapL c k j) b f):=by
 obtain⟨z,hz,hO⟩:=p.cget hc;have:z=y:=by rw[hy]at hz;injection hz with hz;exact(congrArg (·.1) hz).symm
 subst this;have hS:=hO.slT;unfold S.z87;refine W.bind ?_;rw[show IntKind.i64.wrap ((k:Int)+1)=((k+1:Nat):Int) by rw[wrapS]<;>omega];refine W.mono (P:=fun r=>∃j:Nat,r=(j:Int)/\k<=j/\j<c.length/\∀i x z,k<=i->c[i]?=some x->c[j]?=some z->s.rank x<=s.rank z) ?_ fun r hr=>?_
 ·refine W.loopP (c.length-(k+1)) (fun i (x:Int×Int)=>∃j:Nat,x=((j:Int),((k+1+i:Nat):Int))/\k<=j/\j<c.length/\∀i' x z,k<=i'->i'<k+1+i->c[i']?=some x->c[j]?=some z->s.rank x<=s.rank z) ⟨k,rfl,Nat.le_refl _,hk,fun i' x z h1 h2 h3 h4=>?_⟩ fun i x hi hI=>?_
  ·have:i'=k:=by omega
   subst this;rw[h3]at h4;cases h4;omega
  ·obtain⟨j,rfl,hj1,hj2,hj3⟩:=hI
   unfold S.z87.b0
   repeat' (with_reducible refine W.len (by assumption) ?_)
   (with_reducible refine W.cnd (fun hlt=>?_) (fun hlt=>?_)<;>(try simp only[qq,Kd.ty]at hlt)<;>(try (exfalso;omega)))
   ·obtain⟨a,ha⟩:=y3_ (xs:=c) (i:=k+1+i) (by omega)
    obtain⟨d,hd⟩:=y3_ (xs:=c) (i:=j) hj2
    repeat' with_reducible first|refine W.bind ?_|refine W.e2 ?_
    refine W.to (ydf_ p ht hn4 (hL a (List.mem_of_getElem? ha))) ?_
    repeat' with_reducible first|refine W.ret ?_|refine W.bind ?_|refine W.e2 ?_
    refine W.to (ydf_ p ht hn4 (hL d (List.mem_of_getElem? hd))) ?_;have w:IntKind.i64.wrap (((k+1+i:Nat):Int)+1)=((k+1+(i+1):Nat):Int):=by rw[wrapS]<;>omega
    repeat' with_reducible refine W.ret ?_
    (with_reducible refine W.cnd (fun hg=>?_) (fun hg=>?_)<;>(try simp only[qq,Kd.ty]at hg)<;>(try (exfalso;omega)))
    ·repeat' with_reducible first|refine W.nextP ?_|refine W.ret ?_
     refine⟨by omega,k+1+i,by rw[w],by omega,by omega,fun i' x z h1 h2 h3 h4=>?_⟩;rw[ha]at h4;cases h4;by_cases e:i'=k+1+i
     ·subst e;rw[ha]at h3;cases h3;omega
     ·have:=hj3 i' x d h1 (by omega) h3 hd
      omega
    ·repeat' with_reducible first|refine W.nextP ?_|refine W.ret ?_
     refine⟨by omega,j,by rw[w],hj1,hj2,fun i' x z h1 h2 h3 h4=>?_⟩;by_cases e:i'=k+1+i
     ·subst e
      rw[ha]at h3;cases h3;rw[hd]at h4;cases h4;omega
     ·exact hj3 i' x z h1 (by omega) h3 h4
   ·repeat' (with_reducible refine W.stopP ?_)
    exact⟨j,rfl,hj1,hj2,fun i' x z h1 h3 h4=>hj3 i' x z h1 (by have:=y2_ h3;omega) h3 h4⟩
 ·obtain⟨j,rfl,hj1,hj2,hj3⟩:=hr
  obtain⟨a,ha⟩:=y3_ (xs:=c) (i:=k) hk;obtain⟨d,hd⟩:=y3_ (xs:=c) (i:=j) hj2
  repeat' (with_reducible refine W.e2 ?_)
  refine ybx_ p hn hc hy hk hj2 hd ha fun τ H p2=>?_
  repeat' with_reducible refine W.ret ?_
  exact⟨j,hj1,hj2,hj3,H,p2⟩
end
end
section
open Go
section
variable{σ τ:Heap}{T T':Tg}{lp n id:Nat}{h:PH}{s s1:PS}{l:Int}{c c':List Int}{b f:Bool}
theorem PropH.hopW(p:PropH σ T lp h s){k:Nat}{w:List Int}{x2:AVal}(H:Hop (only (51+2*k)) σ T τ T')(hO:Own .int (τ.at T' (51+2*k)) w x2)(hk:k<s.wat.length) :
  Loc (τ.at T' 1) lp [.ptr h.la 0,h.xl,h.xr,h.xt,h.xm,.int .i64 s.head,h.xc,h.xw,h.xo]/\Own vRaw (τ.at T' 9) h.ws h.xw/\∀υ,Hop (only 9) τ T' υ T'->Own vRaw (υ.at T' 9) (h.ws.set k x2) h.xw->PropH υ T' lp { h with ws:=h.ws.set k x2 } { s with wat:=s.wat.set k w }:=by
 obtain⟨k1,k2,k3,k4,k5,k6,k7,k8,k9,k10,k11,k12,k13⟩:=p;replace k1:=k1.hop H (by simp;omega);replace k2:=k2.hop H (by simp;omega);replace k3:=k3.hop H (by simp;omega);replace k4:=k4.hop H (by simp;omega);replace k5:=k5.hop H (by simp;omega);replace k6:=k6.hop H (by simp;omega);replace k7:=k7.hop H (by simp;omega);replace k8:=k8.hop H (by simp;omega);replace k9:=k9.hop H (by simp;omega);replace k10:=k10.hop H (by simp;omega);replace k11:=k11.hop H (by intro i;simp;omega);replace k13:=k13.hopAt H hO;refine⟨k1,k9,fun υ H2 hO2=>?_⟩;have hn:=H2.tn;replace k1:=k1.hop H2;replace k2:=k2.hop H2;replace k3:=k3.hop H2;replace k4:=k4.hop H2;replace k5:=k5.hop H2;replace k6:=k6.hop H2;replace k7:=k7.hop H2;replace k8:=k8.hop H2;replace k10:=k10.hop H2;replace k11:=k11.hop H2;replace k13:=k13.hop H2;replace hn:=H2.tn;exact⟨k1,k2,k3,k4,k5,k6,k7,k8,hO2,k10,k11,k12,k13⟩
theorem yaw_{R:Type}{Q:R->Prop}(p:PropH σ T lp h s)(hn:Tn σ T)(hw:wAt l<s.wat.length)(hb:s.ent+1<=8700000000000){K:Heap->Option R}(k:∀τ T' h',Hop (fun j=>j==9||j==51+2*wAt l) σ T τ T'->PropH τ T' lp h' (s.watch l id)->h'.cs=h.cs->W (K τ) Q) :
  W (ixA σ h.xw 1 (wAt l:Int) fun a35=>ld σ a35 .V fun v36=>newK σ 1 [.int .i64 (id:Int)] fun l37 σ38=>appS σ38 1 8 v36 (.sl l37 0 1 none) fun v39 σ40=>ld σ40 (.ptr lp 7) .V fun v41=>chk ((v41:AVal)=h.xw) (ixA σ40 h.xw 1 (wAt l:Int) fun a42=>scal v39 (stC σ40 a42 [v39] fun σ43=>K σ43))) Q:=by
 obtain⟨xs,z,hx,hz,hO⟩:=p.wf.get (k:=wAt l) hw;have hmx:=y6l_ (List.mem_of_getElem? hx);have hgd:s.wat.getD (wAt l) []=xs:=by rw[List.getD_eq_getElem?_getD,hx];rfl
 have hlw:=p.wf.1;refine W.ixV p.wat.slT hz ?_;refine W.own_push (bytes:=8) Vw.int_flat hO hn (a:=(id:Int)) rfl (by omega) (by omega) fun x2 τ2 T2 hO H2=>?_;obtain⟨k1,k9,hfin⟩:=p.hopW H2 hO hw
 repeat' with_reducible first|refine W.asV ?_|refine W.chk rfl ?_|refine W.u0 ?_
 refine W.ixO k9.slT (i:=wAt l) (by omega) ?_
 repeat' (with_reducible refine W.u4 ?_)
 refine W.own_setV k9 H2.tn (a:=x2) (by omega) fun τ3 k9 H3 _=>?_;have p3:=hfin τ3 H3 k9;refine k τ3 T2 { h with ws:=h.ws.set (wAt l) x2 } ((H2.sub fun j hj=>by simp at hj⊢;exact .inr hj).trans (H3.sub fun j hj=>by simp at hj⊢;exact .inl hj)) ?_ rfl;have e:s.watch l id={ s with wat:=s.wat.set (wAt l) (xs++[(id:Int)]) }:=by unfold PS.watch;rw[hgd]
 rw[e];exact p3
theorem yja_{j0 j1:Nat}(h0:0<c.length)(hj0:j0<c.length)(hb0:∀i x z,0<=i->c[i]?=some x->c[j0]?=some z->s.rank x<=s.rank z)(h1:1<c.length)(hj1:j1<c.length)(h1j:1<=j1)
  (hb1:∀i x z,1<=i->(swapL c 0 j0)[i]?=some x->(swapL c 0 j0)[j1]?=some z->s.rank x<=s.rank z):Bst s (swapL (swapL c 0 j0) 1 j1):=by
 have hl:=y2o_ (c:=c) (i:=0) (j:=j0);have hp:=y16_ h0 hj0;have e0:(swapL c 0 j0)[0]?=c[j0]?:=by
  rw[yy_ h0 hj0];by_cases e:0=j0
  ·rw[if_pos e,e]
  ·rw[if_neg e,if_pos rfl]
 obtain⟨m,hm⟩:=y3_ (xs:=swapL c 0 j0) (i:=j1) (by omega);have key:∀k x,1<=k->(swapL (swapL c 0 j0) 1 j1)[k]?=some x->∃k',1<=k'/\(swapL c 0 j0)[k']?=some x:=fun k x hk hx=>by
  rw[yy_ (by omega) (by omega)]at hx
  split at hx
  ·exact⟨1,by omega,hx⟩
  ·split at hx
   ·exact⟨j1,h1j,hx⟩
   ·exact⟨k,hk,hx⟩
 have e00:(swapL (swapL c 0 j0) 1 j1)[0]?=c[j0]?:=by
  rw[yy_ (by omega) (by omega),if_neg (by omega),if_neg (by omega),e0]
 have e11:(swapL (swapL c 0 j0) 1 j1)[1]?=some m:=by
  rw[yy_ (by omega) (by omega)];by_cases e:1=j1
  ·rw[if_pos e,e,hm]
  ·rw[if_neg e,if_pos rfl,hm]
 intro i j x y hi hij hx hy
 match i,hi with
 | 0,_=>
  rw[e00]at hx;have hmem:y∈c:=by
   have:=List.mem_of_getElem? hy;rw[(y16_ (c:=swapL c 0 j0) (by omega) (by omega)).mem_iff,hp.mem_iff]at this;exact this
  obtain⟨k,hk⟩:=y9_ hmem;exact hb0 k y x (Nat.zero_le _) hk hx
 |1,_=>
  rw[e11]at hx;cases hx;obtain⟨k',hk1,hk2⟩:=key j y hij hy;exact hb1 k' y m hk1 hk2 hm
theorem yg8_(p:PropH σ T lp h s)(hn:Tn σ T)(ht:TrI n s)(hn4:n<=4000)(hL:∀x∈c,isL x n=true)(hc:s.cls[id]?=some (c,b,f))(hcl:c.length<=1000000)(hcc:s.cls.length<=1000000000000)(hb:s.ent+4<=8700000000000) :
  W (S.z94 (.ptr lp 0) (id:Int) σ) fun r=>∃T' h' c' nw s1,Hop pI σ T r.2 T'/\PropH r.2 T' lp h' s1/\(∃y,h.cs[id]?=some (y,b,f)/\h'.cs[id]?=some (y,b,f))/\c'.Perm c/\Bst s c'/\WaX (s.putC id c' b f) s1 id nw/\(nw≠[]->2<=c.length)/\nw.length<=2/\∀x∈c'.take 2,x∈nw\/x∈c.take 2:=by
 obtain⟨y,hy,hO⟩:=p.cget hc;have hlt:=y2_ hc;have hclen:=p.clen;have p0:=p;have k1:=p.obj;have k8:=p.cls;unfold S.z94
 repeat' with_reducible first|refine W.asV ?_|refine W.fldp ?_|refine W.nck ?_|refine W.u0 ?_
 refine W.ixO k8.slT (i:=id) (by omega) ?_;refine W.fldO k8.slT (i:=id) (k:=0) (j:=0) (by omega) ?_;refine W.ldO k8.slT hy (u:=y) (fun us h=>by rw[show us=[y,.bool b,.bool f]from h];rfl) ?_
 repeat' with_reducible first|refine W.asV ?_|refine W.u3 ?_
 (with_reducible refine W.cnd (fun hs=>?_) (fun hs=>?_)<;>(try simp only[qq,Kd.ty]at hs)<;>(try (exfalso;omega)))
 ·repeat' with_reducible refine W.ret ?_
  have hl2:c.length<2:=by omega
  refine⟨T,h,c,[],s,Hop.refl hn,p0,⟨y,hy,hy⟩,.refl _,fun i j x z hi hij hx hz=>?_,?_,fun e=>absurd rfl e,by simp,fun x hx=>.inr hx⟩
  ·have:=y2_ hx;have:=y2_ hz
   have:i=j:=by omega
   subst this;rw[hx]at hz;cases hz;omega
  ·rw[y6u_ hc];exact WaX.refl s id
 ·have hl2:2<=c.length:=by omega
  obtain⟨a0,ha0⟩:=y3_ (xs:=c) (i:=0) (by omega);obtain⟨a1,ha1⟩:=y3_ (xs:=c) (i:=1) (by omega);refine W.ixIc (i:=0) hO.slT ha0 ?_;refine W.ixIc (i:=1) hO.slT ha1 ?_;refine W.bind ?_;refine W.mono (ydk_ (k:=0) p0 hn ht hn4 hL hc hy (by omega) hcl) fun r hr=>?_;obtain⟨r,τ1⟩:=r;obtain⟨j0,_,hj0,hb0,H1,p1⟩:=hr;dsimp only at H1 p1⊢;have hp1:=y16_ (c:=c) (i:=0) (by omega) hj0;have hlen1:=y2o_ (c:=c) (i:=0) (j:=j0);have hc1:=y1i_ hc (c':=swapL c 0 j0) (b':=b) (f':=f);have hE1:CEq s (s.putC id (swapL c 0 j0) b f):=CEq.put hc hp1;have ht1:TrI n (s.putC id (swapL c 0 j0) b f):=ht.same hE1 rfl rfl rfl rfl rfl rfl;refine W.bind ?_;refine W.mono (ydk_ (k:=1) p1 H1.tn ht1 hn4 (fun x hx=>hL x (hp1.mem_iff.1 hx)) hc1 hy (by omega) (by omega)) fun r hr=>?_;obtain⟨r,τ2⟩:=r;obtain⟨j1,hj1',hj1,hb1,H2,p2⟩:=hr;dsimp only at H2 p2⊢;rw[y85_]at p2;have hB:Bst s (swapL (swapL c 0 j0) 1 j1):=yja_ (by omega) hj0 hb0 (by omega) (by omega) hj1' hb1;have hp2:(swapL (swapL c 0 j0) 1 j1).Perm c:=(y16_ (c:=swapL c 0 j0) (i:=1) (by omega) hj1).trans hp1;generalize hc2:swapL (swapL c 0 j0) 1 j1=c2 at p2 hB hp2;have hlen2:=hp2.length_eq;have hcg2:=y1i_ hc (c':=c2) (b':=b) (f':=f);obtain⟨y2,hy2,hO2⟩:=p2.cget hcg2;have:y2=y:=by rw[hy]at hy2;injection hy2 with hy2;exact(congrArg (·.1) hy2).symm
  subst this;obtain⟨v,e5,hv⟩:=hO2.slice (lo:=0) (hi:=2) (by omega) (by omega);rw[List.drop_zero]at hv;refine W.to ((e5 (at_le (σ:=τ2) (T:=T) (i:=50+2*id)) _).1) ?_;have hvs:=hv.sl;have hvl:(c2.take 2).length=2:=by simp;omega
  repeat' with_reducible first|refine W.bind ?_|refine W.len (by assumption) ?_
  have H12:=H1.trans H2;have hwl:(s.putC id c2 b f).wat.length=s.wat.length:=rfl;refine W.mono (P:=fun r=>∃T' h' nw s1,Hop pI σ T r.2 T'/\PropH r.2 T' lp h' s1/\h'.cs[id]?=some (y2,b,f)/\WaX (s.putC id c2 b f) s1 id nw/\nw.length<=2/\∀x∈c2.take 2,x∈nw\/x∈c.take 2) ?_ fun r hr=>?_
  ·refine W.loop 2 (fun i (x:Int) τ=>x=(i:Int)/\∃T' h' nw s1,Hop pI σ T τ T'/\SlV .int (τ.at T' (50+2*id)) (c2.take 2) v/\PropH τ T' lp h' s1/\h'.cs[id]?=some (y2,b,f)/\WaX (s.putC id c2 b f) s1 id nw/\nw.length<=i/\∀k x,k<i->(c2.take 2)[k]?=some x->x∈nw\/x∈c.take 2)
    ⟨rfl,T,h,[],_,H12,hvs,p2,hy,WaX.refl _ _,by simp,fun k x hk=>by omega⟩ fun i x τ3 hi hI=>?_
   obtain⟨rfl,T3,h3,nw,s3,H3,hvs,p3,hy3,X,hnl,hall⟩:=hI;unfold S.z94.b0;rw[hvl]
   (with_reducible refine W.cnd (fun hlt2=>?_) (fun hlt2=>?_)<;>(try simp only[qq,Kd.ty]at hlt2)<;>(try (exfalso;omega)))
   ·obtain⟨a,ha⟩:=y3_ (xs:=c2.take 2) (i:=i) (by omega)
    have hal:isL a n=true:=hL a (hp2.mem_iff.1 (List.mem_of_mem_take (List.mem_of_getElem? ha)));have hal0:=yb_ hal;have hwa:wAt a<(s.putC id c2 b f).wat.length:=by rw[hwl,ht.len.wat];exact y56_ hal
    have w:IntKind.i64.wrap ((i:Int)+1)=((i+1:Nat):Int):=by rw[wrapS]<;>omega
    have key:W ((cond (a != a0) (some (a != a1)) (some false))) fun r=>r=decide (a∉c.take 2):=by
     have hm:a∈c.take 2↔a=a0\/a=a1:=by
      constructor
      ·intro hm
       obtain⟨k,hk⟩:=y9_ hm;have hk2:k<2:=by have:=y2_ hk;simp at this;omega
       rw[List.getElem?_take_of_lt hk2]at hk
       match k,hk2 with
       |0,_=>rw[ha0]at hk;exact .inl (Option.some.inj hk).symm
       |1,_=>rw[ha1]at hk;exact .inr (Option.some.inj hk).symm
      ·rintro(e|e)
       ·exact List.mem_of_getElem? (i:=0) (by rw[List.getElem?_take_of_lt (by omega),ha0,e])
       ·exact List.mem_of_getElem? (i:=1) (by rw[List.getElem?_take_of_lt (by omega),ha1,e])
     by_cases e0:a=a0
     ·refine W.condF (by simp[e0]) ?_
      refine W.ret ?_;have:=hm.2 (.inl e0);rw[decide_eq_false (not_not_intro this)]
     ·refine W.condT (by simp[e0]) ?_
      refine W.ret ?_;by_cases e1:a=a1
      ·have:=hm.2 (.inr e1)
       rw[decide_eq_false (not_not_intro this)];simp[e1]
      ·have:a∉c.take 2:=fun q=>(hm.1 q).elim e0 e1
       rw[decide_eq_true this];simp[e1]
    repeat' with_reducible first|refine W.bind ?_|refine W.ixIc (SlV.up (by assumption)) (by assumption) ?_
    refine W.mono key fun r hr=>?_;subst hr;by_cases hmem:a∈c.take 2
    ·refine W.condF (by simpa using hmem) ?_
     repeat' with_reducible first|refine W.next ?_|refine W.ret ?_
     refine⟨by omega,w,T3,h3,nw,s3,H3,hvs,p3,hy3,X,by omega,fun k x hk hx=>?_⟩;by_cases e:k=i
     ·subst e;rw[ha]at hx;cases hx;exact .inr hmem
     ·exact hall k x (by omega) hx
    ·refine W.condT (by simpa using hmem) ?_
     have k1:=p3.obj
     repeat' with_reducible first|refine W.bind ?_|refine W.asV ?_|refine W.fldp ?_|refine W.nck ?_|refine W.u0 ?_
     refine W.to (at_eq (by omega)) ?_
     repeat' with_reducible first|refine W.ret ?_|refine W.bind ?_|refine W.asV ?_|refine W.fldp ?_|refine W.nck ?_|refine W.u0 ?_
     refine W.to (at_eq (by omega)) ?_
     repeat' with_reducible refine W.ret ?_
     have hent:=X.ent;have hent0:(s.putC id c2 b f).ent=s.ent:=rfl;refine yaw_ p3 H3.tn (by rw[X.len];exact hwa) (by omega) fun τ4 T4 h4 H4 p4 hcs=>?_
     repeat' with_reducible first|refine W.next ?_|refine W.ret ?_
     refine⟨by omega,w,T4,h4,nw++[a],s3.watch a id,H3.trans (H4.sub fun j hj=>by simp[pI]at hj⊢;omega),hvs.hop H4 (by simp;omega),p4,by rw[hcs];exact hy3,X.watch hwa,by simp;omega,fun k x hk hx=>?_⟩
     ·by_cases e:k=i
      ·subst e;rw[ha]at hx;cases hx;left;simp
      ·rcases hall k x (by omega) hx with q|q
       ·left;simp[q]
       ·exact .inr q
   ·repeat' (with_reducible refine W.stop ?_)
    have:i=2:=by omega
    subst this;exact⟨T3,h3,nw,s3,H3,p3,hy3,X,hnl,fun x hx=>by
     obtain⟨k,hk⟩:=y9_ hx;exact hall k x (by have:=y2_ hk;omega) hk⟩
  ·obtain⟨T',h',nw,s1,q1,q2,q3,q4,q5,q6⟩:=hr
   repeat' with_reducible refine W.ret ?_
   exact⟨T',h',c2,nw,s1,q1,q2,⟨y2,hy,q3⟩,hp2,hB,q4,fun _=>hl2,q5,q6⟩
end
end
end Go.Proofs.YtekehmgfedmflaaGreatDoor.A
end
