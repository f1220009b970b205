/- Parts of the proof, one behind another. -/
import Derived.Calls
import Derived.Below
import Derived.KernelRfl
import Derived.Laws.Cells
import Derived.Deep.LoopGhost
import Derived.MapKept
import Derived.Orders
set_option linter.all false
noncomputable section
namespace Go.Proofs.YtekehmgfedmflaaGreatDoor.A
section
open Go Go.RowKit
inductive AVal where
 |bool (b:Bool)
 |int (k:IntKind) (n:Int)
 |str (s:ByteArray)
 |ptr (l off:Nat)
 |nilp
 |sl (l off len:Nat) (c:Option Nat)
 |nils
 |box (l:Nat)
 |map (l:Nat)
 |nilm
 |fn (f:Fn) (first cap:List AVal)
 |nilf
 |ifc (t:TypeId) (v:AVal)
 |nili
 |agg (cs:List AVal)
 |tup (vs:List AVal)
 deriving Inhabited
structure Pl where
 blk:Nat
 start:Nat
 cap:Nat
 sz:Nat
mutual
def VR(m:Nat->Option Pl):AVal->Value->Prop
 | .bool b,v=>v=.bool b
 | .int k n,v=>v=.int k n
 | .str s,v=>v=.string s
 | .ptr l off,v=>∃p,m l=some p/\v=.pointer (some ⟨p.blk,p.start+off,none⟩)
 | .nilp,v=>v=.pointer none
 | .sl l off len c,v=>∃p cv a,m l=some p/\(c=none->off+cv=p.cap)/\(∀k,c=some k->cv=k/\off+k<=p.cap)/\len<=cv /\
   (cv≠0->a=⟨p.blk,p.start+off*p.sz,none⟩)/\v=.slice (some a) len cv
 | .nils,v=>v=.slice none 0 0
 | .box l,v=>∃p,m l=some p/\p.start=0/\v=.pointer (some ⟨p.blk,0,none⟩)
 | .map l,v=>∃p,m l=some p/\v=.map (some p.blk)
 | .nilm,v=>v=.map none
 | .fn f a b,v=>∃a' b':List Value,v=.func f a'.toArray b'.toArray/\VRs m a a'/\VRs m b b'
 | .nilf,v=>v=.nilFunc
 | .ifc t x,v=>∃y,v=.iface t y/\VR m x y
 | .nili,v=>v=.nilIface
 | .agg cs,v=>∃vs:List Value,v=.agg vs.toArray/\VRs m cs vs/\∀u∈vs,u.oneCell'=true
 | .tup cs,v=>∃vs:List Value,v=.tuple vs.toArray/\VRs m cs vs
def VRs(m:Nat->Option Pl):List AVal->List Value->Prop
 |[],vs=>vs=[]
 |a::as0,vs=>∃v vs',vs=v::vs'/\VR m a v/\VRs m as0 vs'
end
def Sub(m m':Nat->Option Pl):Prop:=∀l p,m l=some p->m' l=some p
theorem Sub.refl(m:Nat->Option Pl):Sub m m:=fun _ _ h=>h
theorem Sub.trans{a b c:Nat->Option Pl}(h:Sub a b)(k:Sub b c):Sub a c:=fun l p e=>k l p (h l p e)
mutual
theorem VR.mono{m m':Nat->Option Pl}(h:Sub m m'):∀(a:AVal) (v:Value),VR m a v->VR m' a v
 | .bool _,_,e=>by simp only[VR]at e⊢;exact e
 | .int _ _,_,e=>by simp only[VR]at e⊢;exact e
 | .str _,_,e=>by simp only[VR]at e⊢;exact e
 | .ptr _ _,_,e=>by simp only[VR]at e⊢;obtain⟨p,h1,h2⟩:=e;exact⟨p,h _ _ h1,h2⟩
 | .nilp,_,e=>by simp only[VR]at e⊢;exact e
 | .sl _ _ _ _,_,e=>by simp only[VR]at e⊢;obtain⟨p,cv,o,h1,h2⟩:=e;exact⟨p,cv,o,h _ _ h1,h2⟩
 | .nils,_,e=>by simp only[VR]at e⊢;exact e
 | .box _,_,e=>by simp only[VR]at e⊢;obtain⟨p,h1,h2⟩:=e;exact⟨p,h _ _ h1,h2⟩
 | .map _,_,e=>by simp only[VR]at e⊢;obtain⟨p,h1,h2⟩:=e;exact⟨p,h _ _ h1,h2⟩
 | .nilm,_,e=>by simp only[VR]at e⊢;exact e
 | .fn _ a b,_,e=>by
  simp only[VR]at e⊢;obtain⟨x,y,h1,h2,h3⟩:=e;exact⟨x,y,h1,VRs.mono h a x h2,VRs.mono h b y h3⟩
 | .nilf,_,e=>by simp only[VR]at e⊢;exact e
 | .ifc _ x,_,e=>by simp only[VR]at e⊢;obtain⟨y,h1,h2⟩:=e;exact⟨y,h1,VR.mono h x y h2⟩
 | .nili,_,e=>by simp only[VR]at e⊢;exact e
 | .agg cs,_,e=>by simp only[VR]at e⊢;obtain⟨vs,h1,h2,h3⟩:=e;exact⟨vs,h1,VRs.mono h cs vs h2,h3⟩
 | .tup cs,_,e=>by simp only[VR]at e⊢;obtain⟨vs,h1,h2⟩:=e;exact⟨vs,h1,VRs.mono h cs vs h2⟩
theorem VRs.mono{m m':Nat->Option Pl}(h:Sub m m'):∀(as0:List AVal) (vs:List Value),VRs m as0 vs->VRs m' as0 vs
 |[],_,e=>by simp only[VRs]at e⊢;exact e
 |a::as0,vs,e=>by simp only[VRs]at e⊢;obtain⟨v,vs',h1,h2,h3⟩:=e;exact⟨v,vs',h1,VR.mono h a v h2,VRs.mono h as0 vs' h3⟩
end
theorem VRs.length{m:Nat->Option Pl}:∀{as0:List AVal} {vs:List Value},VRs m as0 vs->vs.length=as0.length
 |[],_,e=>by simp only[VRs]at e;simp[e]
 |a::as0,_,e=>by simp only[VRs]at e;obtain⟨v,vs',rfl,_,h⟩:=e;simp[VRs.length h]
theorem VRs.get{m:Nat->Option Pl}:∀{as0:List AVal} {vs:List Value},VRs m as0 vs->∀(i:Nat) (a:AVal),as0[i]?=some a->∃v,vs[i]?=some v/\VR m a v
 |[],_,_,i,a,h=>by simp at h
 |a::as0,_,e,i,x,h=>by
  simp only[VRs]at e;obtain⟨v,vs',rfl,h1,h2⟩:=e;cases i with
  |zero=>simp at h;subst h;exact⟨v,by simp,h1⟩
  |succ i=>simp at h;obtain⟨u,h3,h4⟩:=VRs.get h2 i x h;exact⟨u,by simpa using h3,h4⟩
theorem VRs.of_get{m:Nat->Option Pl}:∀{as0:List AVal} {vs:List Value},vs.length=as0.length->(∀(i:Nat) (a:AVal),as0[i]?=some a->∃v,vs[i]?=some v/\VR m a v)->VRs m as0 vs
 |[],vs,h,_=>by simp only[VRs];simpa using h
 |a::as0,[],h,_=>by simp at h
 |a::as0,v::vs,h,g=>by
  simp only[VRs];refine⟨v,vs,rfl,?_,VRs.of_get (by simpa using h) fun i x hx=>?_⟩
  ·obtain⟨u,h1,h2⟩:=g 0 a (by simp);simp at h1;subst h1;exact h2
  ·obtain⟨u,h1,h2⟩:=g (i+1) x (by simpa using hx);exact⟨u,by simpa using h1,h2⟩
theorem VRs.append{m:Nat->Option Pl}:∀{as0 bs:List AVal} {vs us:List Value},VRs m as0 vs->VRs m bs us->VRs m (as0++bs) (vs++us)
 |[],bs,vs,us,h,k=>by simp only[VRs]at h;subst h;simpa using k
 |a::as0,bs,_,us,h,k=>by
  simp only[VRs]at h;obtain⟨v,vs',rfl,h1,h2⟩:=h;exact⟨v,vs'++us,rfl,h1,VRs.append h2 k⟩
inductive Md where
 |rw|ro|rx|rz
 deriving DecidableEq
def Md.isRw:Md->Bool
 | .rw=>true
 |_=>false
def Md.ex:Md->Bool
 | .rw=>true
 | .rx=>true
 |_=>false
def Md.fr0:Md->Bool
 | .ro=>false
 |_=>true
theorem Md.fr0_of_ex{md:Md}(h:md.ex=true):md.fr0=true:=by cases md<;>first|rfl|cases h
inductive AObj where
 |cells (md:Md) (sz:Nat) (cs:List AVal)
 |map (es:List (AVal×AVal))
def AObj.rw:AObj->Bool
 | .cells md _ _=>md.isRw
 | .map _=>true
def AObj.ex:AObj->Bool
 | .cells md _ _=>md.ex
 | .map _=>true
structure Heap where
 next:Nat
 get:Nat->Option AObj
def Heap.set(σ:Heap)(l:Nat)(o:AObj):Heap:={ σ with get:=fun k=>if k=l then some o else σ.get k }
def Heap.kill(σ:Heap)(l:Nat):Heap:={ σ with get:=fun k=>if k=l then none else σ.get k }
def Heap.new(σ:Heap)(o:AObj):Heap:={ next:=σ.next+1,get:=fun k=>if k=σ.next then some o else σ.get k }
def Heap.cell(σ:Heap)(l o:Nat):Option AVal:=
 match σ.get l with
 |some (.cells _ _ cs)=>cs[o]?
 |_=>none
structure Grw(σ σ':Heap):Prop where
 next:σ.next<=σ'.next
 frame:∀l o,σ'.get l=some o->o.rw=false->σ.get l=some o
theorem Grw.refl(σ:Heap):Grw σ σ:=⟨Nat.le_refl _,fun _ _ h _=>h⟩
theorem Grw.trans{a b c:Heap}(h:Grw a b)(k:Grw b c):Grw a c:=⟨Nat.le_trans h.next k.next,fun l o e r=>h.frame l o (k.frame l o e r) r⟩
theorem Grw.set{σ:Heap}{l:Nat}{o:AObj}(h:o.rw=true):Grw σ (σ.set l o):=⟨Nat.le_refl _,fun k x e r=>by
 simp only[Heap.set]at e
 split at e
 ·cases e;rw[h]at r;cases r
 ·exact e⟩
theorem Grw.new{σ:Heap}{o:AObj}(h:o.rw=true):Grw σ (σ.new o):=⟨Nat.le_succ _,fun k x e r=>by
 simp only[Heap.new]at e
 split at e
 ·cases e;rw[h]at r;cases r
 ·exact e⟩
theorem Grw.kill{σ:Heap}(l:Nat):Grw σ (σ.kill l):=⟨Nat.le_refl _,fun k x e r=>by
 simp only[Heap.kill]at e
 split at e
 ·cases e
 ·exact e⟩
def Ext(σ τ:Heap):Prop:=∀l o,σ.get l=some o->τ.get l=some o
theorem Ext.refl(σ:Heap):Ext σ σ:=fun _ _ h=>h
def ObjR(m:Nat->Option Pl)(p:Pl):AObj->World->Prop
 | .cells md sz cs,w=>∃c e fr,w.heap[p.blk]?=some (.cells c e fr)/\(md.fr0=true->fr=(0,0))/\p.sz=sz/\True/\cs.length<=p.cap*sz /\
   p.start+p.cap*sz<=c.size/\∀(i:Nat) (a:AVal),cs[i]?=some a->∃v,c[p.start+i]?=some v/\VR m a v/\v.oneCell'=true
 | .map es,w=>∃(ents:Array MapEntry) (clock:Nat),w.heap[p.blk]?=some (.map ents clock)/\ents.size=es.length /\
   (∀(i:Nat) (k v:AVal),es[i]?=some (k,v)->∃e:MapEntry,ents[i]?=some e/\VR m k e.key/\VR m v e.val)/\MapKept.Stamped ents clock
structure Keeps(B:Nat->Prop)(w w':World):Prop where
 os:w'.os=w.os
 tape:w'.tape=w.tape
 output:w'.output=w.output
 size:w.heap.size<=w'.heap.size
 block:∀k,B k->w'.heap[k]?=w.heap[k]?
theorem Keeps.trans{B:Nat->Prop}{a b c:World}(h:Keeps B a b)(k:Keeps B b c):Keeps B a c:=
 ⟨k.os.trans h.os,k.tape.trans h.tape,k.output.trans h.output,Nat.le_trans h.size k.size,fun i hi=>(k.block i hi).trans (h.block i hi)⟩
theorem Keeps.refl(B:Nat->Prop)(w:World):Keeps B w w:=⟨rfl,rfl,rfl,Nat.le_refl _,fun _ _=>rfl⟩
structure Base where
 w:World
 n:Nat
 m:Nat->Option Pl
 pm:Bool
structure R(B:Nat->Prop)(w0:Base)(m:Nat->Option Pl)(σ:Heap)(w:World):Prop where
 obj:∀l o,σ.get l=some o->∃p,m l=some p/\ObjR m p o w
 dom:∀l p,m l=some p->l<σ.next/\p.blk<w.heap.size
 excl:∀l l' o o' p p',l≠l'->σ.get l=some o->σ.get l'=some o'->m l=some p->m l'=some p'->o.ex=true->p.blk≠p'.blk
 own:w0.pm=false->∀l o p,σ.get l=some o->o.rw=true->m l=some p->¬B p.blk
 below:Keeps B w0.w w
 base:∀k,B k->k<w.heap.size
 oldn:w0.n<=σ.next
 old:∀l,l<w0.n->m l=w0.m l
end
section
open Go
inductive TK where
 |int (k:IntKind)|bool|str|ptr (e:TypeId)|slice (e:TypeId)|strct (fs:List (Nat×TypeId))|arr (n:Nat) (e:TypeId)
 |map (k e:TypeId)|iface (ms:Bool)|func|other
structure TI where
 tk:TK
 size:Nat
 bytes:Nat
 zero:List AVal
 cmp:Bool
def aOf:Value->Option AVal
 | .bool b=>some (.bool b)
 | .int k n=>some (.int k n)
 | .string s=>some (.str s)
 | .pointer none=>some .nilp
 | .slice none 0 0=>some .nils
 | .map none=>some .nilm
 | .nilFunc=>some .nilf
 | .nilIface=>some .nili
 |_=>none
def aOfs:List Value->Option (List AVal)
 |[]=>some []
 | v::vs=>match aOf v with
  |some a=>match aOfs vs with
   |some as0=>some (a::as0)
   |none=>none
  |none=>none
def tkOf:TypeDesc->TK
 | .bool=>.bool
 | .int k=>.int k
 | .string=>.str
 | .pointer e=>.ptr e
 | .slice e=>.slice e
 | .struct fs=>.strct (fs.toList.map fun f=>(f.offset,f.type))
 | .array n e=>.arr n e
 | .map k e=>.map k e
 | .interface ms=>.iface (!ms.isEmpty)
 | .func _ _ _=>.func
 |_=>.other
def isAg(tk:TK):Bool:=match tk with
 | .strct _=>true
 | .arr _ _=>true
 |_=>false
def tiOf(P:Program)(t:TypeId):Option TI:=
 match P.info? t with
 | some i=>match P.underlying t with
  | some d=>match i.zero with
   |some z=>match aOfs z.cells.toList with
    |some cs=>bif Nat.beq cs.length i.size&&(isAg (tkOf d)||z.oneCell')then some ⟨tkOf d,i.size,i.bytes,cs,i.comparable⟩else none
    |none=>none
   |none=>none
  |none=>none
 |none=>none
inductive Kd where
 |I (k:IntKind)|B|S|V
 deriving DecidableEq
@[reducible] def Kd.ty:Kd->Type
 | .I _=>Int
 | .B=>Bool
 | .S=>ByteArray
 | .V=>AVal
def Kd.val:(k:Kd)->k.ty->AVal
 | .I k,n=>.int k n
 | .B,b=>.bool b
 | .S,s=>.str s
 | .V,v=>v
@[reducible] def Tu:List Kd->Type
 |[]=>Unit
 |[k]=>k.ty
 |k::k'::ks=>k.ty×Tu (k'::ks)
def Tu.vals:(ks:List Kd)->Tu ks->List AVal
 |[],_=>[]
 |[k],x=>[k.val x]
 |k::k'::ks,x=>k.val x.1::Tu.vals (k'::ks) x.2
abbrev Env:=List (Nat×AVal)
def Env.get:Env->Nat->Option AVal
 |[],_=>none
 |(s,v)::e,t=>bif Nat.beq s t then some v else Env.get e t
def Env.put(e:Env)(d:Option Tmp)(v:AVal):Env:=match d with
 |some t=>(t,v)::e
 |none=>e
def inL:List Nat->Nat->Bool
 |[],_=>false
 |s::l,t=>bif Nat.beq s t then true else inL l t
def Env.drop:Env->List Nat->Env
 |[],_=>[]
 |(s,v)::e,l=>bif inL l s then Env.drop e l else(s,v)::Env.drop e l
def Env.only(e:Env):List Nat->Env
 |[]=>[]
 |t::l=>match e.get t with
  |some v=>(t,v)::Env.only e l
  |none=>Env.only e l
abbrev Lv:=List (Nat×Kd)
@[reducible] def Lv.ty:Lv->Type
 |[]=>Unit
 |[x]=>x.2.ty
 |x::y::l=>x.2.ty×Lv.ty (y::l)
def Lv.env:(l:Lv)->l.ty->Env
 |[],_=>[]
 |[x],v=>[(x.1,x.2.val v)]
 |x::y::l,v=>(x.1,x.2.val v.1)::Lv.env (y::l) v.2
section
variable{Rt:Type}
def asK:(k:Kd)->AVal->(k.ty->Option Rt)->Option Rt
 | .I k,.int k' n,K=>if k=k' then K n else none
 | .I _,_,_=>none
 | .B,.bool b,K=>K b
 | .B,_,_=>none
 | .S,.str s,K=>K s
 | .S,_,_=>none
 | .V,v,K=>K v
def Env.getK(e:Env)(t:Nat)(k:Kd)(K:k.ty->Option Rt):Option Rt:=match e.get t with
 |some v=>asK k v K
 |none=>none
def Env.pack(e:Env):(l:Lv)->(l.ty->Option Rt)->Option Rt
 |[],K=>K ()
 |[x],K=>e.getK x.1 x.2 K
 |x::y::l,K=>e.getK x.1 x.2 fun a=>e.pack (y::l) fun b=>K (a,b)
def packs:(vs:List AVal)->(ks:List Kd)->(Tu ks->Option Rt)->Option Rt
 |[],[],K=>K ()
 |[v],[k],K=>asK k v K
 |v::v'::vs,k::k'::ks,K=>asK k v fun a=>packs (v'::vs) (k'::ks) fun b=>K (a,b)
 |_,_,_=>none
def scal(v:AVal)(X:Option Rt):Option Rt:=match v with
 | .agg _=>none
 | .tup _=>none
 |_=>X
def nilck(v:AVal)(X:Option Rt):Option Rt:=match v with
 | .ptr _ _=>X
 | .ifc _ _=>X
 | .fn (.func _) _ _=>X
 |_=>none
def fld(v:AVal)(off:Nat)(K:AVal->Option Rt):Option Rt:=match v with
 | .ptr l o=>K (.ptr l (o+off))
 |_=>none
def ixA(σ:Heap)(v:AVal)(sz:Nat)(i:Int)(K:AVal->Option Rt):Option Rt:=match v with
 | .sl l off len _=>match σ.get l with
  |some (.cells _ sz' _)=>if sz'=sz/\0<=i/\i<len then K (.ptr l ((off+i.toNat)*sz))else none
  |_=>none
 |_=>none
def ixP(v:AVal)(n sz:Nat)(i:Int)(K:AVal->Option Rt):Option Rt:=match v with
 | .ptr l o=>if 0<=i/\i<n then K (.ptr l (o+i.toNat*sz))else none
 |_=>none
def ld(σ:Heap)(a:AVal)(k:Kd)(K:k.ty->Option Rt):Option Rt:=match a with
 | .ptr l o=>match σ.cell l o with
  |some v=>asK k v K
  |none=>none
 |_=>none
def ldG(σ:Heap)(a:AVal)(n:Nat)(K:AVal->Option Rt):Option Rt:=match a with
 | .ptr l o=>match σ.get l with
  |some (.cells _ _ cs)=>if o+n<=cs.length then K (.agg ((cs.drop o).take n))else none
  |_=>none
 |_=>none
def stC(σ:Heap)(a:AVal)(vs:List AVal)(K:Heap->Option Rt):Option Rt:=match a with
 | .ptr l o=>match σ.get l with
  |some (.cells .rw sz cs)=>if o+vs.length<=cs.length then K (σ.set l (.cells .rw sz (cs.take o++vs++cs.drop (o+vs.length))))else none
  |_=>none
 |_=>none
def aggK(v:AVal)(n:Nat)(K:List AVal->Option Rt):Option Rt:=match v with
 | .agg cs=>if cs.length=n then K cs else none
 |_=>none
def binI(op:BinOp)(k:IntKind)(x y:Int)(K:AVal->Option Rt):Option Rt:=match op with
 | .add=>K (.int k (k.wrap (x+y)))
 | .sub=>K (.int k (k.wrap (x-y)))
 | .mul=>K (.int k (k.wrap (x*y)))
 | .quo=>if y=0 then none else K (.int k (k.wrap (x.tdiv y)))
 | .rem=>if y=0 then none else K (.int k (x.tmod y))
 | .and=>K (.int k (k.wrap (BitVec.ofInt k.bits x &&& BitVec.ofInt k.bits y).toNat))
 | .or=>K (.int k (k.wrap (BitVec.ofInt k.bits x ||| BitVec.ofInt k.bits y).toNat))
 | .xor=>K (.int k (k.wrap (BitVec.ofInt k.bits x ^^^ BitVec.ofInt k.bits y).toNat))
 | .andNot=>K (.int k (k.wrap (BitVec.ofInt k.bits x &&& ~~~BitVec.ofInt k.bits y).toNat))
 | .eql=>K (.bool (x==y))
 | .neq=>K (.bool (x != y))
 | .lss=>K (.bool (decide (x<y)))
 | .leq=>K (.bool (decide (x<=y)))
 | .gtr=>K (.bool (decide (x>y)))
 | .geq=>K (.bool (decide (x>=y)))
 |_=>none
def shI(op:BinOp)(k:IntKind)(x y:Int)(K:AVal->Option Rt):Option Rt:=
 if y<0 then none else match op with
 | .shl=>K (.int k (k.wrap (x*2 ^ (min y.toNat k.bits))))
 | .shr=>K (.int k (x.fdiv (2 ^ (min y.toNat k.bits))))
 |_=>none
def eqP(a b:AVal)(K:Bool->Option Rt):Option Rt:=match a,b with
 | .nilp,.nilp=>K true
 | .nilp,.ptr _ _=>K false
 | .ptr _ _,.nilp=>K false
 | .ptr l o,.ptr l' o'=>if l=l' then K (o==o')else none
 |_,_=>none
def eqS(a b:AVal)(K:Bool->Option Rt):Option Rt:=match a,b with
 | .nils,.nils=>K true
 | .nils,.sl _ _ _ _=>K false
 | .sl _ _ _ _,.nils=>K false
 |_,_=>none
def eqM(a b:AVal)(K:Bool->Option Rt):Option Rt:=match a,b with
 | .nilm,.nilm=>K true
 | .nilm,.map _=>K false
 | .map _,.nilm=>K false
 |_,_=>none
def eqF(a b:AVal)(K:Bool->Option Rt):Option Rt:=match a,b with
 | .nilf,.nilf=>K true
 | .nilf,.fn _ _ _=>K false
 | .fn _ _ _,.nilf=>K false
 |_,_=>none
def y1h_:Operand->Bool
 | .const _=>true
 |_=>false
def strNe:Option AVal->Option AVal->Bool
 |some (.str a),some (.str b)=>decide (a≠b)
 |_,_=>false
def eqI(T:TypeId->Option TI)(σ:Heap)(cn:Bool)(a b:AVal)(K:Bool->Option Rt):Option Rt:=match a,b with
 | .nili,.nili=>bif cn then K true else none
 | .nili,.ifc _ _=>K false
 | .ifc _ _,.nili=>K false
 | .ifc t (.ptr l o),.ifc u (.ptr l' o')=>
  if t=u then match T t with
   | some ti=>(match ti.tk with
    | .ptr e=>(match T e with
     | some ei=>bif Nat.beq ei.size 0 || !ti.cmp then none else
      if l=l' then K (o==o')else match σ.get l,σ.get l' with
       |some (.cells md _ cs),some (.cells md' _ cs')=>if(md.ex=true/\md'.ex=true/\o<cs.length/\o'<cs'.length)\/(md.fr0=true/\md'.fr0=true/\strNe cs[o]? cs'[o']?=true)then K false else none
       |_,_=>none
     |none=>none)
    |_=>none)
   |none=>none
  else K false
 |_,_=>none
def lenV(v:AVal)(K:Int->Option Rt):Option Rt:=match v with
 | .sl _ _ len _=>K len
 | .nils=>K 0
 |_=>none
def lenM(σ:Heap)(v:AVal)(K:Int->Option Rt):Option Rt:=match v with
 | .map l=>match σ.get l with
  |some (.map es)=>K es.length
  |_=>none
 | .nilm=>K 0
 |_=>none
def newK(σ:Heap)(sz:Nat)(cs:List AVal)(K:Nat->Heap->Option Rt):Option Rt:=K σ.next (σ.new (.cells .rw sz cs))
def rep(n:Nat)(z:List AVal):List AVal:=match n with
 |0=>[]
 |n+1=>z++rep n z
def mkS(σ:Heap)(sz bytes:Nat)(z:List AVal)(len cap:Int)(K:AVal->Heap->Option Rt):Option Rt:=
 if 0<=len/\len<=cap/\cap*bytes<=70368744177664/\cap<=70368744177664 then newK σ sz (rep cap.toNat z) fun l σ=>K (.sl l 0 len.toNat none) σ else none
def srcK(σ:Heap)(sz:Nat)(v:AVal)(K:List AVal->Nat->Option Rt):Option Rt:=match v with
 | .nils=>K [] 0
 | .sl l off len _=>match σ.get l with
  |some (.cells _ sz' cs)=>if sz'=sz/\(off+len)*sz<=cs.length then K ((cs.drop (off*sz)).take (len*sz)) len else none
  |_=>none
 |_=>none
def appC(σ:Heap)(sz bytes:Nat)(s:AVal)(xs:List AVal)(n:Nat)(K:AVal->Heap->Option Rt):Option Rt:=match s with
 | .nils=>if n=0 then K .nils σ else if n*bytes<=70368744177664/\n<=70368744177664 then newK σ sz xs fun l σ=>K (.sl l 0 n none) σ else none
 | .sl l off len c=>match σ.get l with
  | some (.cells md sz' cs)=>
   if sz'=sz/\0<sz/\(off+len)*sz<=cs.length then
   if n=0 then K s σ else
   if(len+n)*bytes<=70368744177664/\len+n<=70368744177664 then
   match c with
   | some k=>
    if len+n<=k then
     (if md=.rw/\(off+len+n)*sz<=cs.length then K (.sl l off (len+n) c) (σ.set l (.cells .rw sz (cs.take ((off+len)*sz)++xs++cs.drop ((off+len+n)*sz))))else none)
    else newK σ sz ((cs.drop (off*sz)).take (len*sz)++xs) fun l σ=>K (.sl l 0 (len+n) none) σ
   |none=>
    if md=.rw then
    if(off+len+n)*sz<=cs.length then K (.sl l off (len+n) c) (σ.set l (.cells .rw sz (cs.take ((off+len)*sz)++xs++cs.drop ((off+len+n)*sz))))
    else newK (σ.kill l) sz ((cs.drop (off*sz)).take (len*sz)++xs) fun l σ=>K (.sl l 0 (len+n) none) σ
    else none
   else none
   else none
  |_=>none
 |_=>none
def appS(σ:Heap)(sz bytes:Nat)(s x:AVal)(K:AVal->Heap->Option Rt):Option Rt:=
 srcK σ sz x fun xs n=>appC σ sz bytes s xs n K
def appB(σ:Heap)(s:AVal)(x:ByteArray)(K:AVal->Heap->Option Rt):Option Rt:=
 if x.size<=70368744177664 then appC σ 1 1 s (x.data.toList.map fun b=>.int .u8 b.toNat) x.size K else none
def appZ(σ:Heap)(sz bytes:Nat)(z:List AVal)(s:AVal)(n:Int)(K:AVal->Heap->Option Rt):Option Rt:=match s with
 | .nils=>if n=0 then K .nils σ else if 0<n/\n*bytes<=70368744177664/\n<=70368744177664 then newK σ sz (rep n.toNat z) fun l σ=>K (.sl l 0 n.toNat none) σ else none
 |_=>none
def y19_(mx:Option Int)(c:Option Nat)(lo:Int):Option Nat:=match mx with
 |some m=>some (m.toNat-lo.toNat)
 |none=>match c with
  |some k=>some (k-lo.toNat)
  |none=>none
def slS(σ:Heap)(sz:Nat)(v:AVal)(lo:Int)(hi mx:Option Int)(K:AVal->Option Rt):Option Rt:=match v with
 | .nils=>if lo=0/\hi.getD 0=0/\mx.getD 0=0/\(mx.isNone||hi.isSome)=true then K .nils else none
 | .sl l off len c=>match σ.get l with
  | some (.cells _ sz' _)=>
   if sz'=sz/\0<=lo/\lo<=hi.getD len/\hi.getD len<=mx.getD len/\mx.getD len<=len/\(mx.isNone||hi.isSome)=true then
    K (.sl l (off+lo.toNat) ((hi.getD len).toNat-lo.toNat) (y19_ mx c lo))
   else none
  |_=>none
 |_=>none
def slB(s:ByteArray)(lo:Int)(hi:Option Int)(K:ByteArray->Option Rt):Option Rt:=
 if 0<=lo/\lo<=hi.getD s.size/\hi.getD s.size<=s.size then K (s.extract lo.toNat (hi.getD s.size).toNat)else none
def ixB(s:ByteArray)(i:Int)(K:Int->Option Rt):Option Rt:=
 if 0<=i then match s[i.toNat]? with
  |some b=>K b.toNat
  |none=>none
 else none
def agS(v:AVal)(off:Nat)(k:Kd)(K:k.ty->Option Rt):Option Rt:=match v with
 | .agg cs=>match cs[off]? with
  |some x=>asK k x K
  |none=>none
 |_=>none
def agG(v:AVal)(off n:Nat)(K:AVal->Option Rt):Option Rt:=match v with
 | .agg cs=>if off+n<=cs.length then K (.agg ((cs.drop off).take n))else none
 |_=>none
def tupK(v:AVal)(i:Nat)(K:AVal->Option Rt):Option Rt:=match v with
 | .tup vs=>match vs[i]? with
  |some x=>K x
  |none=>none
 |_=>none
end
inductive Spec where
 |eff (ks:List Kd) (g:List AVal->Heap->Option (Tu ks×Heap))
 |pur (ks:List Kd) (g:List AVal->Heap->Option (Tu ks))
def retV(ks:List Kd)(x:Tu ks):AVal:=match ks,x with
 |[k],x=>k.val x
 |ks,x=>.tup (Tu.vals ks x)
def yr_{Rt:Type}(s:Option Spec)(args:List AVal)(σ:Heap)(K:AVal->Heap->Option Rt):Option Rt:=match s with
 |some (.eff ks g)=>(g args σ).bind fun r=>K (retV ks r.1) r.2
 |some (.pur ks g)=>(g args σ).bind fun x=>K (retV ks x) σ
 |none=>none
def isPur:Option Spec->Bool
 |some (.pur _ _)=>true
 |_=>false
def y3p_:FuncId->Option Spec:=fun _=>none
def tab(n:FuncId)(W:Spec)(rest:FuncId->Option Spec):FuncId->Option Spec:=fun f=>bif Nat.beq f n then some W else rest f
structure Cx where
 P:Program
 NG:Nat
 n:Nat
 calls:FuncId->Option Spec
 pv:Nat->Bool:=fun _=>false
section
variable{Rt:Type}(C:Cx)
def Cx.ti(t:TypeId)(K:TI->Option Rt):Option Rt:=match tiOf C.P t with
 |some i=>K i
 |none=>none
def ev(e:Env)(x:Operand)(K:AVal->Option Rt):Option Rt:=match x with
 | .tmp t=>match e.get t with
  |some v=>K v
  |none=>none
 | .const v=>match aOf v with
  |some a=>K a
  |none=>none
 | .global g=>bif Nat.blt g C.NG then K (.ptr g 0)else none
 | .func f=>K (.fn (.func f) [] [])
def evs(e:Env)(xs:List Operand)(K:List AVal->Option Rt):Option Rt:=match xs with
 |[]=>K []
 |x::xs=>ev C e x fun a=>evs e xs fun as0=>K (a::as0)
def kdOf(tk:TK):Kd:=match tk with
 | .int k=>.I k
 | .bool=>.B
 | .str=>.S
 |_=>.V
def y1x_(i:TI)(v:AVal)(K:List AVal->Option Rt):Option Rt:=
 bif isAg i.tk then aggK v i.size K else bif Nat.beq i.size 1 then scal v (K [v])else none
def partK(i:TI)(v:AVal)(off:Nat)(K:AVal->Option Rt):Option Rt:=
 bif isAg i.tk then agG v off i.size K else agS v off (kdOf i.tk) fun x=>K ((kdOf i.tk).val x)
def loadK(i:TI)(σ:Heap)(a:AVal)(K:AVal->Option Rt):Option Rt:=
 bif isAg i.tk then ldG σ a i.size K else ld σ a (kdOf i.tk) fun x=>K ((kdOf i.tk).val x)
def fillK(place:Nat->Option (Nat×TypeId))(e:Env)(cs:List AVal)(ps:List (Nat×Operand))(K:List AVal->Option Rt):Option Rt:=match ps with
 |[]=>K cs
 | (i,x)::ps=>match place i with
  | some (off,t)=>C.ti t fun ti=>ev C e x fun v=>y1x_ ti v fun vs=>
    if off+ti.size<=cs.length then fillK place e (cs.take off++vs++cs.drop (off+ti.size)) ps K else none
  |none=>none
def allTi(fs:List (Nat×TypeId))(X:Option Rt):Option Rt:=match fs with
 |[]=>X
 |f::fs=>C.ti f.2 fun _=>allTi fs X
def intK(v:AVal)(K:Int->Option Rt):Option Rt:=match v with
 | .int _ n=>K n
 |_=>none
def optK(e:Env)(x:Option Operand)(K:Option Int->Option Rt):Option Rt:=match x with
 |some x=>ev C e x fun v=>intK v fun n=>K (some n)
 |none=>K none
def mfind(k:IntKind)(n:Int):List (AVal×AVal)->Nat->Option (Option Nat)
 |[],_=>some none
 |(.int k' m,_)::es,i=>if k'=k then(if n=m then some (some i)else mfind k n es (i+1))else none
 |_::_,_=>none
def mgetK(σ:Heap)(v:AVal)(k:IntKind)(n:Int)(K:Option AVal->Option Rt):Option Rt:=match v with
 | .nilm=>K none
 | .map l=>match σ.get l with
  | some (.map es)=>match mfind k n es 0 with
   |some (some j)=>match es[j]? with
    |some x=>K (some x.2)
    |none=>none
   |some none=>K none
   |none=>none
  |_=>none
 |_=>none
def mgetZ(σ:Heap)(v:AVal)(k:IntKind)(n:Int)(z:AVal)(K:AVal->Bool->Option Rt):Option Rt:=mgetK σ v k n fun r=>match r with
 |some x=>K x true
 |none=>K z false
def mputK(σ:Heap)(v:AVal)(k:IntKind)(n:Int)(x:AVal)(K:Heap->Option Rt):Option Rt:=match v with
 | .map l=>match σ.get l with
  |some (.map es)=>match mfind k n es 0 with
   |some (some j)=>K (σ.set l (.map (es.set j (.int k n,x))))
   |some none=>K (σ.set l (.map (es++[(.int k n,x)])))
   |none=>none
  |_=>none
 |_=>none
def mdelK(σ:Heap)(v:AVal)(k:IntKind)(n:Int)(K:Heap->Option Rt):Option Rt:=match v with
 | .nilm=>K σ
 | .map l=>match σ.get l with
  |some (.map es)=>match mfind k n es 0 with
   |some (some j)=>K (σ.set l (.map (es.eraseIdx j)))
   |some none=>K (σ.set l (.map es))
   |none=>none
  |_=>none
 |_=>none
def keyK(tk:TK)(v:AVal)(K:IntKind->Int->Option Rt):Option Rt:=match tk,v with
 | .int k',.int k n=>if k'=k then K k n else none
 |_,_=>none
def y2d_(a b:Int):List (AVal×AVal)->Nat->Option (Option Nat)
 |[],_=>some none
 |(.agg [.int .i64 x,.int .i64 y],_)::es,i=>if a=x/\b=y then some (some i)else y2d_ a b es (i+1)
 |_::_,_=>none
def y2u_(σ:Heap)(v:AVal)(a b:Int)(K:Option AVal->Option Rt):Option Rt:=match v with
 | .nilm=>K none
 | .map l=>match σ.get l with
  | some (.map es)=>match y2d_ a b es 0 with
   |some (some j)=>match es[j]? with
    |some x=>K (some x.2)
    |none=>none
   |some none=>K none
   |none=>none
  |_=>none
 |_=>none
def y2b_(σ:Heap)(v:AVal)(a b:Int)(z:AVal)(K:AVal->Bool->Option Rt):Option Rt:=y2u_ σ v a b fun r=>match r with
 |some x=>K x true
 |none=>K z false
def y1y_(σ:Heap)(v:AVal)(a b:Int)(x:AVal)(K:Heap->Option Rt):Option Rt:=match v with
 | .map l=>match σ.get l with
  |some (.map es)=>match y2d_ a b es 0 with
   |some (some j)=>K (σ.set l (.map (es.set j (.agg [.int .i64 a,.int .i64 b],x))))
   |some none=>K (σ.set l (.map (es++[(.agg [.int .i64 a,.int .i64 b],x)])))
   |none=>none
  |_=>none
 |_=>none
def key2K(T:TypeId->Option TI)(tk:TK)(v:AVal)(K:Int->Int->Option Rt):Option Rt:=match tk with
 | .arr n el=>match T el with
  | some ei=>(match ei.tk with
   | .int .i64=>bif Nat.beq n 2&&Nat.beq ei.size 1 then(match v with
    | .agg [.int .i64 a,.int .i64 b]=>K a b
    |_=>none)else none
   |_=>none)
  |none=>none
 |_=>none
def copyK(σ:Heap)(sz:Nat)(d s:AVal)(K:Nat->Heap->Option Rt):Option Rt:=match d with
 | .nils=>lenV s fun _=>K 0 σ
 | .sl l off len _=>match s with
  | .nils=>K 0 σ
  | .sl l2 off2 len2 _=>match σ.get l2 with
   | some (.cells _ sz2 cs)=>if sz2=sz/\(off2+min len2 len)*sz<=cs.length then
     (if min len2 len=0 then K 0 σ else match σ.get l with
     |some (.cells _ sz3 _)=>if sz3=sz then stC σ (.ptr l (off*sz)) ((cs.drop (off2*sz)).take (min len2 len*sz)) fun σ=>K (min len2 len) σ else none
     |_=>none)
    else none
   |_=>none
  |_=>none
 |_=>none
def y1s_(σ:Heap)(sz:Nat)(z:List AVal)(v:AVal)(K:Heap->Option Rt):Option Rt:=match v with
 | .nils=>K σ
 | .sl l off len _=>if len=0 then K σ else match σ.get l with
  |some (.cells _ sz' _)=>if sz'=sz then stC σ (.ptr l (off*sz)) (rep len z) K else none
  |_=>none
 |_=>none
def capV(v:AVal)(K:Int->Option Rt):Option Rt:=match v with
 | .nils=>K 0
 | .sl _ _ _ (some k)=>K k
 |_=>none
def zeroK(i:TI)(K:AVal->Option Rt):Option Rt:=bif isAg i.tk then none else match i.zero with
 |[z]=>K z
 |_=>none
def biK(e:Env)(b:Builtin)(ts:List TypeId)(args:List Operand)(σ:Heap)(K:AVal->Heap->Option Rt):Option Rt:=match b,ts,args with
 | .len,[t],[x]=>C.ti t fun ti=>ev C e x fun v=>(match ti.tk with
  | .slice _=>lenV v fun n=>K (.int .i64 n) σ
  | .str=>asK .S v fun s=>K (.int .i64 s.size) σ
  | .map _ _=>lenM σ v fun n=>K (.int .i64 n) σ
  |_=>none)
 | .append,[t,u],[x,y]=>C.ti t fun ti=>ev C e x fun s=>ev C e y fun v=>(match ti.tk with
  | .slice el=>C.ti el fun ei=>C.ti u fun ui=>(match ui.tk with
   | .slice _=>appS σ ei.size ei.bytes s v K
   | .str=>bif Nat.beq ei.size 1&&Nat.beq ei.bytes 1 then asK .S v fun b=>appB σ s b K else none
   | .int _=>asK (.I .i64) v fun n=>appZ σ ei.size ei.bytes ei.zero s n K
   |_=>none)
  |_=>none)
 | .clear,[t],[x]=>C.ti t fun ti=>(match ti.tk with
  | .slice el=>C.ti el fun ei=>ev C e x fun v=>y1s_ σ ei.size ei.zero v fun σ=>K (.tup []) σ
  |_=>none)
 | .copy,[t,_],[x,y]=>C.ti t fun ti=>ev C e x fun d=>ev C e y fun s=>(match ti.tk with
  | .slice el=>C.ti el fun ei=>copyK σ ei.size d s fun n σ=>K (.int .i64 n) σ
  |_=>none)
 | .cap,[t],[x]=>C.ti t fun ti=>(match ti.tk with
  | .slice _=>ev C e x fun v=>capV v fun n=>K (.int .i64 n) σ
  |_=>none)
 | .delete,[t,_],[x,y]=>C.ti t fun ti=>(match ti.tk with
  | .map kt _=>C.ti kt fun ki=>ev C e x fun v=>ev C e y fun i=>keyK ki.tk i fun k n=>mdelK σ v k n fun σ=>K (.tup []) σ
  |_=>none)
 | .max,_,[x,y]=>ev C e x fun a=>ev C e y fun b=>(match a,b with
  | .int k a,.int _ b=>K (.int k (if b>a then b else a)) σ
  |_,_=>none)
 | .min,_,[x,y]=>ev C e x fun a=>ev C e y fun b=>(match a,b with
  | .int k a,.int _ b=>K (.int k (if b<a then b else a)) σ
  |_,_=>none)
 |_,_,_=>none
def binK(op:BinOp)(ti:TI)(σ:Heap)(cn:Bool)(a b:AVal)(K:AVal->Option Rt):Option Rt:=match ti.tk with
 | .int _=>(match a,b with
  | .int k x,.int k' y=>(match op with
   | .shl=>shI .shl k x y K
   | .shr=>shI .shr k x y K
   |op=>if k=k' then binI op k x y K else none)
  |_,_=>none)
 | .str=>(match a,b,op with
  | .str x,.str y,.eql=>K (.bool (x.toList==y.toList))
  | .str x,.str y,.neq=>K (.bool !(x.toList==y.toList))
  | .str x,.str y,.add=>if x.size+y.size<=70368744177664 then K (.str (x++y))else none
  |_,_,_=>none)
 | .bool=>(match a,b,op with
  | .bool x,.bool y,.eql=>K (.bool (x==y))
  | .bool x,.bool y,.neq=>K (.bool !(x==y))
  |_,_,_=>none)
 | .ptr el=>C.ti el fun ei=>bif Nat.beq ei.size 0 then none else(match op with
  | .eql=>eqP a b fun r=>K (.bool r)
  | .neq=>eqP a b fun r=>K (.bool !r)
  |_=>none)
 | .slice _=>(match op with
  | .eql=>eqS a b fun r=>K (.bool r)
  | .neq=>eqS a b fun r=>K (.bool !r)
  |_=>none)
 | .map _ _=>(match op with
  | .eql=>eqM a b fun r=>K (.bool r)
  | .neq=>eqM a b fun r=>K (.bool !r)
  |_=>none)
 | .func=>(match op with
  | .eql=>eqF a b fun r=>K (.bool r)
  | .neq=>eqF a b fun r=>K (.bool !r)
  |_=>none)
 | .iface _=>(match op with
  | .eql=>eqI (tiOf C.P) σ cn a b fun r=>K (.bool r)
  | .neq=>eqI (tiOf C.P) σ cn a b fun r=>K (.bool !r)
  |_=>none)
 |_=>none
def coeK(t:TypeId)(v:AVal)(K:AVal->Option Rt):Option Rt:=match tiOf C.P t with
 |some ti=>bif isAg ti.tk then K v else asK (kdOf ti.tk) v fun x=>K ((kdOf ti.tk).val x)
 |none=>K v
def y2a_(t:TypeId)(v:AVal)(K:Option AVal->Option Rt):Option Rt:=match v with
 | .ifc u a=>if u=t then K (some a)else K none
 | .nili=>K none
 |_=>none
def y34_(t:TypeId)(v z:AVal)(K:AVal->Bool->Option Rt):Option Rt:=y2a_ t v fun r=>match r with
 |some x=>K x true
 |none=>K z false
def isIf(tk:TK):Bool:=match tk with
 | .iface _=>true
 |_=>false
def mupK(e:Env)(t:TypeId)(x i y:Operand)(σ:Heap)(K:AVal->Heap->Option Rt):Option Rt:=C.ti t fun ti=>(match ti.tk with
 | .map kt _=>C.ti kt fun ki=>ev C e x fun v=>ev C e i fun i=>ev C e y fun y=>bif isAg ki.tk then key2K (tiOf C.P) ki.tk i fun a b=>y1y_ σ v a b y fun σ=>K (.tup []) σ
   else keyK ki.tk i fun k n=>mputK σ v k n y fun σ=>K (.tup []) σ
 |_=>none)
def pvBad(fo:Operand)(id:FuncId):Bool:=match fo with
 | .tmp t=>bif C.pv t then !isPur (C.calls id)else false
 |_=>false
def dop(e:Env)(o:Oper)(σ:Heap)(K:AVal->Heap->Option Rt):Option Rt:=match o.op with
 | .move x=>ev C e x fun v=>K v σ
 | .assign x=>ev C e x fun v=>K v σ
 | .pick c a b=>ev C e c fun c=>asK .B c fun c=>cond c (ev C e a fun v=>K v σ) (ev C e b fun v=>K v σ)
 | .alloc t=>C.ti t fun ti=>newK σ ti.size ti.zero fun l σ=>K (.ptr l 0) σ
 | .box t x=>C.ti t fun ti=>ev C e x fun v=>y1x_ ti v fun vs=>newK σ ti.size vs fun l σ=>K (.ptr l 0) σ
 | .build t ps=>C.ti t fun ti=>(match ti.tk with
  | .strct fs=>allTi C fs (fillK C (fs[·]?) e ti.zero ps.toList fun cs=>K (.agg cs) σ)
  | .arr _ el=>C.ti el fun ei=>fillK C (fun i=>some (i*ei.size,el)) e ti.zero ps.toList fun cs=>K (.agg cs) σ
  |_=>none)
 | .buildSlice t len ps=>C.ti t fun ti=>(match ti.tk with
  | .slice el=>C.ti el fun ei=>bif Nat.ble (len*ei.size) 16777216 then fillK C (fun i=>some (i*ei.size,el)) e (rep len ei.zero) ps.toList fun cs=>newK σ ei.size cs fun l σ=>K (.sl l 0 len none) σ else none
  |_=>none)
 | .load t a=>C.ti t fun ti=>ev C e a fun a=>loadK ti σ a fun v=>K v σ
 | .store t a x=>C.ti t fun ti=>ev C e a fun a=>ev C e x fun v=>y1x_ ti v fun vs=>stC σ a vs fun σ=>K (.tup []) σ
 | .nilCheck x=>ev C e x fun v=>nilck v (K v σ)
 | .binOp op t x y _=>C.ti t fun ti=>ev C e x fun a=>ev C e y fun b=>binK C op ti σ (y1h_ x||y1h_ y) a b fun v=>K v σ
 | .unOp op _ x=>ev C e x fun v=>(match op,v with
  | .neg,.int k n=>K (.int k (k.wrap (0-n))) σ
  | .not,.bool b=>K (.bool !b) σ
  |_,_=>none)
 | .convert s t x=>C.ti s fun _=>C.ti t fun ti=>ev C e x fun v=>(match ti.tk,v with
  | .int k,.int _ n=>K (.int k (k.wrap n)) σ
  |_,_=>none)
 | .makeInterface t x=>C.ti t fun ti=>ev C e x fun v=>(match ti.tk with
  | .iface _=>none
  |_=>K (.ifc t v) σ)
 | .makeFunc f fi ca=>evs C e fi.toList fun a=>evs C e ca.toList fun b=>K (.fn f a b) σ
 | .makeSlice t l c=>C.ti t fun ti=>(match ti.tk with
  | .slice el=>C.ti el fun ei=>ev C e l fun l=>ev C e c fun c=>intK l fun l=>intK c fun c=>mkS σ ei.size ei.bytes ei.zero l c K
  |_=>none)
 | .slice t x lo hi mx=>C.ti t fun ti=>ev C e x fun v=>optK C e lo fun lo=>optK C e hi fun hi=>optK C e mx fun mx=>(match ti.tk with
  | .slice el=>C.ti el fun ei=>slS σ ei.size v (lo.getD 0) hi mx fun v=>K v σ
  | .str=>(match mx with
   |none=>asK .S v fun s=>slB s (lo.getD 0) hi fun s=>K (.str s) σ
   |some _=>none)
  |_=>none)
 | .fieldAddr t x f=>C.ti t fun ti=>(match ti.tk with
  | .strct fs=>(match fs[f]? with
   |some (off,u)=>C.ti u fun ui=>bif Nat.beq ui.size 0 then none else ev C e x fun v=>fld v off fun a=>K a σ
   |none=>none)
  |_=>none)
 | .field t x f=>C.ti t fun ti=>(match ti.tk with
  | .strct fs=>(match fs[f]? with
   |some (off,u)=>C.ti u fun ui=>ev C e x fun v=>partK ui v off fun v=>K v σ
   |none=>none)
  |_=>none)
 | .indexAddr t x i=>C.ti t fun ti=>ev C e x fun v=>ev C e i fun i=>intK i fun i=>(match ti.tk with
  | .slice el=>C.ti el fun ei=>ixA σ v ei.size i fun a=>K a σ
  | .arr n el=>C.ti el fun ei=>ixP v n ei.size i fun a=>K a σ
  |_=>none)
 | .index t x i=>C.ti t fun ti=>ev C e x fun v=>ev C e i fun i=>intK i fun i=>(match ti.tk with
  | .str=>asK .S v fun s=>ixB s i fun b=>K (.int .u8 b) σ
  | .arr n el=>C.ti el fun ei=>if 0<=i/\i<n then partK ei v (i.toNat*ei.size) fun v=>K v σ else none
  |_=>none)
 | .extract x i=>ev C e x fun v=>tupK v i fun v=>K v σ
 | .call c=>(match c.callee with
  | .builtin b=>biK C e b c.argTypes.toList c.args.toList σ K
  | .value fo=>ev C e fo fun f=>evs C e c.args.toList fun args=>(match f with
   | .fn (.func id) fi ca=>bif pvBad C fo id then none else yr_ (C.calls id) (fi++args++ca) σ (match fo with
    | .func _=>K
    |_=>fun v σ=>coeK C o.type v fun v=>K v σ)
   |_=>none)
  | .invoke _ _=>none)
 | .makeMap t none=>C.ti t fun ti=>(match ti.tk with
  | .map _ _=>K (.map σ.next) (σ.new (.map []))
  |_=>none)
 | .lookup t x i ok=>C.ti t fun ti=>(match ti.tk with
  | .map kt et=>C.ti kt fun ki=>C.ti et fun ei=>ev C e x fun v=>ev C e i fun i=>bif isAg ki.tk then key2K (tiOf C.P) ki.tk i fun a b=>zeroK ei fun z=>y2b_ σ v a b z fun x b=>asK (kdOf ei.tk) x fun y=>
    bif ok then K (.tup [(kdOf ei.tk).val y,.bool b]) σ else K ((kdOf ei.tk).val y) σ
   else keyK ki.tk i fun k n=>zeroK ei fun z=>mgetZ σ v k n z fun x b=>asK (kdOf ei.tk) x fun y=>
    bif ok then K (.tup [(kdOf ei.tk).val y,.bool b]) σ else K ((kdOf ei.tk).val y) σ
  |_=>none)
 | .typeAssert x _ t ok=>C.ti t fun ti=>ev C e x fun v=>bif isIf ti.tk then none else
   bif ok then zeroK ti fun z=>y34_ t v z fun x b=>asK (kdOf ti.tk) x fun y=>K (.tup [(kdOf ti.tk).val y,.bool b]) σ
   else y2a_ t v fun r=>(match r with
    |some x=>asK (kdOf ti.tk) x fun y=>K ((kdOf ti.tk).val y) σ
    |none=>none)
 | .mapUpdate t x i y=>mupK C e t x i y σ K
 | .insert t x i y=>mupK C e t x i y σ K
 |_=>none
def dstOk(n:Nat)(d:Option Tmp):Bool:=match d with
 |some t=>Nat.blt t n
 |none=>true
def dops(all:List Oper):List Oper->Env->Heap->(Env->Heap->Option Rt)->Option Rt
 |[],e,σ,K=>K e σ
 | o::os,e,σ,K=>
  let here (e:Env):Option Rt:=dop C e o σ fun v σ=>dops all os (e.put o.dst v) σ K
  bif dstOk C.n o.dst then
  (match o.guard with
  |none=>here e
  | some (j,want)=>(match all[j]? with
   | some oj=>(match oj.dst with
    |some t=>(match e.get t with
     | some (.bool c)=>cond c
       (bif want then here (e.put (some t) (.bool true))else dops all os ((e.put (some t) (.bool true)).put o.dst (.tup [])) σ K)
       (bif want then dops all os ((e.put (some t) (.bool false)).put o.dst (.tup [])) σ K else here (e.put (some t) (.bool false)))
     |some (.tup [])=>dops all os (e.put o.dst (.tup [])) σ K
     |_=>none)
    |none=>none)
   |none=>none))
  else none
end
def y8_(C:Cx)(o:Oper):Bool:=match o.op with
 | .move _ | .assign _ | .pick _ _ _ | .build _ _ | .load _ _ | .nilCheck _ | .binOp _ _ _ _ _ | .unOp _ _ _ | .convert _ _ _ | .makeInterface _ _ | .makeFunc _ _ _ | .slice _ _ _ _ _ | .fieldAddr _ _ _
 | .field _ _ _ | .indexAddr _ _ _ | .index _ _ _ | .extract _ _=>true
 | .call c=>(match c.callee with
  | .builtin .len=>true
  | .builtin .max=>true
  | .builtin .min=>true
  | .value (.func f)=>isPur (C.calls f)
  | .value (.tmp t)=>C.pv t
  |_=>false)
 |_=>false
def yh_(C:Cx):List Oper->Bool
 |[]=>true
 |o::os=>bif y8_ C o then yh_ C os else false
def yz_(o:Oper):Bool:=match o.op with
 | .alloc _ | .box _ _ | .buildSlice _ _ _ | .makeSlice _ _ _=>true
 |_=>false
def y10_(C:Cx)(o:Oper):Bool:=match o.op with
 | .load _ _ | .slice _ _ _ _ _ | .indexAddr _ _ _=>true
 | .binOp _ t _ _ _=>(match tiOf C.P t with
  |some ti=>(match ti.tk with
   | .iface _=>true
   |_=>false)
  |none=>true)
 | .call c=>(match c.callee with
  | .builtin .len=>(match c.argTypes.toList with
   | [t]=>(match tiOf C.P t with
    |some ti=>(match ti.tk with
     | .map _ _=>true
     |_=>false)
    |none=>true)
   |_=>true)
  | .builtin .max=>false
  | .builtin .min=>false
  |_=>true)
 |_=>false
def y4d_(acc:List Nat):List Edge->Nat
 |[]=>0
 |x::es=>(bif Region.binds .any x then Nat.lor (Nat.lor (Nat.pow 2 x.on) (acc.getD (acc.length-1-x.on) 0)) 0 else 0).lor (y4d_ acc es)
def masks:List Oper->List Nat->List Nat
 |[],acc=>acc.reverse
 |o::os,acc=>masks os (y4d_ acc o.after.toList::acc)
def ahead(ms:List Nat)(i j:Nat):Bool:=Nat.testBit (ms.getD j 0) i
def onB(o:Oper)(i:Nat):Bool:=o.after.toList.any fun x=>Region.binds .any x&&Nat.beq x.on i
def lexOk(ops:Array Oper)(x:Oper)(i:Nat):List Oper->Bool
 |[]=>true
 |y::ys=>bif onB y i||x.apart ops y then lexOk ops x i ys else false
def y97_(ops:Array Oper):List Oper->Nat->Bool
 |[],_=>true
 |x::xs,i=>bif lexOk ops x i xs&&(x.after.toList.all fun e => !Region.binds .any e||Nat.blt e.on i)then y97_ ops xs (i+1)else false
def y45_(C:Cx)(ms:List Nat):List Oper->Nat->List Nat->Bool
 |[],_,_=>true
 | o::os,i,ns=>bif y8_ C o then y45_ C ms os (i+1) ns else
   bif yz_ o then y45_ C ms os (i+1) (i::ns) else
   bif ns.all (fun j=>ahead ms j i)then y45_ C ms os (i+1) [i]else false
def y6j_:List Oper->List Nat->Bool
 |[],_=>true
 |o::os,l=>match o.dst with
  |some t=>bif inL l t then false else y6j_ os (t::l)
  |none=>y6j_ os l
def y51_(C:Cx)(ops:Array Oper):Bool:=
 Region.noSelect ops&&y6j_ ops.toList []&&y97_ ops ops.toList 0&&y45_ C (masks ops.toList []) ops.toList 0 []
def yc_(o:Oper):List Nat:=o.op.operands.toList.filterMap fun
 | .tmp t=>some t
 |_=>none
structure Pend where
 i:Nat
 e:Env
 o:Oper
 v:AVal
open Classical in
def chk{Rt:Type}(p:Prop)(X:Option Rt):Option Rt:=if p then X else none
section
variable{Rt:Type}(C:Cx)
def rechk(ms:List Nat)(k:Nat)(σ:Heap):List Pend->Option Rt->Option Rt
 |[],X=>X
 |p::ps,X=>bif ahead ms p.i k then rechk ms k σ ps X else dop C p.e p.o σ fun v _=>chk (v=p.v) (rechk ms k σ ps X)
def backs(ms:List Nat)(k:Nat)(e:Env)(o:Oper)(v:AVal):List (Nat×Heap)->Option Rt->Option Rt
 |[],X=>X
 |h::hs,X=>bif ahead ms h.1 k then backs ms k e o v hs X else dop C e o h.2 fun v' _=>chk (v'=v) (backs ms k e o v hs X)
def ddops(all:List Oper)(ms:List Nat):List Oper->Nat->Env->Heap->Heap->List Pend->List (Nat×Heap)->(Env->Heap->Option Rt)->Option Rt
 |[],_,e,_,σ,_,_,K=>K e σ
 | o::os,k,e,H,σ,ps,hs,K=>
  let here (e:Env):Option Rt:=
   bif y8_ C o then
    dop C (e.only (yc_ o)) o H fun v _=>bif y10_ C o then backs C ms k (e.only (yc_ o)) o v hs (ddops all ms os (k+1) (e.put o.dst v) H σ (⟨k,e.only (yc_ o),o,v⟩::ps) hs K)
     else ddops all ms os (k+1) (e.put o.dst v) H σ ps hs K
   else bif yz_ o then dop C (e.only (yc_ o)) o σ fun v σ=>ddops all ms os (k+1) (e.put o.dst v) H σ ps hs K
   else dop C (e.only (yc_ o)) o σ fun v σ=>rechk C ms k σ ps (ddops all ms os (k+1) (e.put o.dst v) σ σ ps ((k,H)::hs) K)
  bif dstOk C.n o.dst then
  (match o.guard with
  |none=>here e
  | some (j,want)=>(match all[j]? with
   | some oj=>(match oj.dst with
    |some t=>(match e.get t with
     | some (.bool c)=>cond c
       (bif want then here (e.put (some t) (.bool true))else ddops all ms os (k+1) ((e.put (some t) (.bool true)).put o.dst (.tup [])) H σ ps hs K)
       (bif want then ddops all ms os (k+1) ((e.put (some t) (.bool false)).put o.dst (.tup [])) H σ ps hs K else here (e.put (some t) (.bool false)))
     |some (.tup [])=>ddops all ms os (k+1) (e.put o.dst (.tup [])) H σ ps hs K
     |_=>none)
    |none=>none)
   |none=>none))
  else none
def regK(ops:Array Oper)(draw:Bool)(e:Env)(σ:Heap)(K:Env->Heap->Option Rt):Option Rt:=
 bif draw then bif y51_ C ops then ddops C ops.toList (masks ops.toList []) ops.toList 0 e σ σ [] [] K else none
 else dops C ops.toList ops.toList e σ K
end
inductive Ex where
 |normal|exit (id:Nat)|ret
 deriving DecidableEq
@[reducible] def JT:List (Ex×Lv)->Type
 |[]=>Empty
 |[x]=>x.2.ty
 |x::y::l=>x.2.ty⊕JT (y::l)
def exEq:Ex->Ex->Bool
 | .normal,.normal=>true
 | .exit a,.exit b=>Nat.beq a b
 | .ret,.ret=>true
 |_,_=>false
def packJ{Rt:Type}:(js:List (Ex×Lv))->Ex->Env->(JT js->Option Rt)->Option Rt
 |[],_,_,_=>none
 |[x],ex,e,K=>bif exEq x.1 ex then e.pack x.2 K else none
 |x::y::l,ex,e,K=>bif exEq x.1 ex then e.pack x.2 (fun a=>K (.inl a))else packJ (y::l) ex e (fun a=>K (.inr a))
def elimJ{Rt:Type}:(js:List (Ex×Lv))->JT js->Env->Heap->(Ex->Env->Heap->Option Rt)->Option Rt
 |[x],a,e,σ,K=>K x.1 (x.2.env a++e) σ
 |x::y::l,a,e,σ,K=>match a with
  | .inl a=>K x.1 (x.2.env a++e) σ
  | .inr a=>elimJ (y::l) a e σ K
inductive Ann where
 |z
 |s (a b:Ann)
 |j (js:List (Ex×Lv)) (a:Ann)
 |l (L:Lv) (js:List (Ex×Lv)) (a:Ann)
def Ann.fst:Ann->Ann
 | .s a _=>a
 |_=>.z
def Ann.snd:Ann->Ann
 | .s _ b=>b
 |_=>.z
def dsts:List Oper->List Nat->List Nat
 |[],acc=>acc
 |o::os,acc=>match o.dst with
  |some t=>dsts os (t::acc)
  |none=>dsts os acc
def wr:Code->List Nat->List Nat
 | .region _ ops _,acc=>dsts ops.toList acc
 | .seq a b,acc=>wr a (wr b acc)
 | .cond _ a b,acc=>wr a (wr b acc)
 | .block _ a,acc=>wr a acc
 | .loop a,acc=>wr a acc
 | .scope a,acc=>wr a acc
 |_,acc=>acc
def pureC(C:Cx):Code->Bool
 | .region _ ops _=>yh_ C ops.toList
 | .seq a b=>bif pureC C a then pureC C b else false
 | .cond _ a b=>bif pureC C a then pureC C b else false
 | .block _ a=>pureC C a
 | .loop a=>pureC C a
 | .scope a=>pureC C a
 |_=>true
def yq_{X Y:Type}(f:X->Option (X⊕Y)):Nat->X->Option Y
 |0,_=>none
 |n+1,x=>match f x with
  |some (.inl x)=>yq_ f n x
  |some (.inr y)=>some y
  |none=>none
open Classical in
def loopP{X Y:Type}(f:X->Option (X⊕Y))(x:X):Option Y:=
 if h:∃n r,yq_ f n x=some r then some (h.choose_spec.choose)else none
def loopN{X Y:Type}(f:X->Heap->Option ((X⊕Y)×Heap)):Nat->X->Heap->Option (Y×Heap)
 |0,_,_=>none
 |n+1,x,σ=>match f x σ with
  |some (.inl x,σ)=>loopN f n x σ
  |some (.inr y,σ)=>some (y,σ)
  |none=>none
open Classical in
def loopW{X Y:Type}(f:X->Heap->Option ((X⊕Y)×Heap))(x:X)(σ:Heap):Option (Y×Heap):=
 if h:∃n r,loopN f n x σ=some r then some (h.choose_spec.choose)else none
def mapX(id:Nat)(ex:Ex):Ex:=match ex with
 | .exit i=>bif Nat.beq i id then .normal else .exit i
 |ex=>ex
def den(C:Cx):Code->Ann->Env->Heap->{Rt:Type}->(Ex->Env->Heap->Option Rt)->Option Rt
 | .skip,_,e,σ,_,K=>K .normal e σ
 | .label _,_,e,σ,_,K=>K .normal e σ
 | .ret,_,e,σ,_,K=>K .ret e σ
 | .exit id,_,e,σ,_,K=>K (.exit id) e σ
 | .region _ ops draw,an,e,σ,_,K=>(match an with
  | .j js _=>bif yh_ C ops.toList then
    (regK C ops draw e σ fun e _=>packJ js .normal e fun a=>some a).bind fun r=>elimJ js r (e.drop (dsts ops.toList [])) σ K
   else(regK C ops draw e σ fun e σ=>packJ js .normal e fun a=>some (a,σ)).bind fun r=>elimJ js r.1 (e.drop (dsts ops.toList [])) r.2 K
  |_=>regK C ops draw e σ fun e σ=>K .normal e σ)
 | .seq a b,an,e,σ,_,K=>den C a an.fst e σ fun ex e σ=>(match ex with
  | .normal=>den C b an.snd e σ K
  |ex=>K ex e σ)
 | .cond c a b,an,e,σ,_,K=>ev C e c fun v=>asK .B v fun v=>(match an with
  | .j js an=>bif (bif pureC C a then pureC C b else false) then
    (cond v (den C a an.fst e σ fun ex e _=>packJ js ex e fun x=>some x) (den C b an.snd e σ fun ex e _=>packJ js ex e fun x=>some x)).bind fun r=>elimJ js r (e.drop (wr a (wr b []))) σ K
   else(cond v (den C a an.fst e σ fun ex e σ=>packJ js ex e fun x=>some (x,σ)) (den C b an.snd e σ fun ex e σ=>packJ js ex e fun x=>some (x,σ))).bind
    fun r=>elimJ js r.1 (e.drop (wr a (wr b []))) r.2 K
  |an=>cond v (den C a an.fst e σ K) (den C b an.snd e σ K))
 | .block id a,an,e,σ,_,K=>(match an with
  | .j js an=>bif pureC C a then
    (den C a an e σ fun ex e _=>packJ js (mapX id ex) e fun x=>some x).bind fun r=>elimJ js r (e.drop (wr a [])) σ K
   else(den C a an e σ fun ex e σ=>packJ js (mapX id ex) e fun x=>some (x,σ)).bind fun r=>elimJ js r.1 (e.drop (wr a [])) r.2 K
  |an=>den C a an e σ fun ex e σ=>K (mapX id ex) e σ)
 | .loop a,an,e,σ,_,K=>(match an with
  | .l L js an=>e.pack L fun x=>bif pureC C a then
    (loopP (fun(x:L.ty)=>den C a an (L.env x++e.drop (wr a [])) σ fun ex e _=>(match ex with
    | .normal=>e.pack L fun x=>some (Sum.inl x:L.ty⊕JT js)
    |ex=>packJ js ex e fun y=>some (Sum.inr y))) x).bind fun r=>elimJ js r (e.drop (wr a [])) σ K
   else(loopW (fun(x:L.ty) σ=>den C a an (L.env x++e.drop (wr a [])) σ fun ex e σ=>(match ex with
    | .normal=>e.pack L fun x=>some ((Sum.inl x:L.ty⊕JT js),σ)
    |ex=>packJ js ex e fun y=>some (Sum.inr y,σ))) x σ).bind fun r=>elimJ js r.1 (e.drop (wr a [])) r.2 K
  |_=>none)
 |_,_,_,_,_,_=>none
def resK{Rt:Type}(C:Cx)(e:Env)(σ:Heap):List ResultVar->(List AVal->Option Rt)->Option Rt
 |[],K=>K []
 | .tmp t::rs,K=>match e.get t with
  |some v=>resK C e σ rs fun vs=>K (v::vs)
  |none=>none
 | .cell a t::rs,K=>C.ti t fun ti=>match e.get a with
  |some p=>loadK ti σ p fun v=>resK C e σ rs fun vs=>K (v::vs)
  |none=>none
def env0:Nat->List AVal->Env
 |_,[]=>[]
 |i,a::as0=>(i,a)::env0 (i+1) as0
def denF(C:Cx)(rs:List ResultVar)(c:Code)(an:Ann)(ks:List Kd)(args:List AVal)(σ:Heap):Option (Tu ks×Heap):=
 den C c an (env0 0 args) σ fun ex e σ=>match ex with
  | .exit _=>none
  |_=>resK C e σ rs fun vs=>packs vs ks fun r=>some (r,σ)
def denP(C:Cx)(rs:List ResultVar)(c:Code)(an:Ann)(ks:List Kd)(args:List AVal)(σ:Heap):Option (Tu ks):=
 bif pureC C c then den C c an (env0 0 args) σ fun ex e σ=>match ex with
  | .exit _=>none
  |_=>resK C e σ rs fun vs=>packs vs ks fun r=>some r
 else none
end
section
open Go
def putC{Rt:Type}(cs:List AVal)(off n:Nat)(vs:List AVal)(K:List AVal->Option Rt):Option Rt:=if off+n<=cs.length then K (cs.take off++vs++cs.drop (off+n))else none
def newM{Rt:Type}(σ:Heap)(K:Nat->Heap->Option Rt):Option Rt:=K σ.next (σ.new (.map []))
def callV{Rt:Type}(T:FuncId->Option Spec)(v:AVal)(args:List AVal)(σ:Heap)(K:AVal->Heap->Option Rt):Option Rt:=match v with
 | .fn (.func id) fi ca=>yr_ (T id) (fi++args++ca) σ K
 |_=>none
open Classical in
def lim{α:Type}(g:Nat->Option α):Option α:=if h:∃r N,∀n,N<=n->g n=some r then some h.choose else none
theorem lim_spec'{α:Type}{g:Nat->Option α}{r:α}(h:lim g=some r):∃N,∀n,N<=n->g n=some r:=by
 unfold lim at h
 split at h
 ·rename_i hx;cases h;exact hx.choose_spec
 ·cases h
theorem yh5_{α:Type}{g:Nat->Option α}{r:α}(h:lim g=some r):∃n,g n=some r:=by
 obtain⟨N,hN⟩:=lim_spec' h;exact⟨N,hN N (Nat.le_refl _)⟩
theorem yk1_{α:Type}{g:Nat->Option α}{r:α}(N:Nat)(h:∀n,N<=n->g n=some r):lim g=some r:=by
 unfold lim;have hx:∃r N,∀n,N<=n->g n=some r:=⟨r,N,h⟩;rw[dif_pos hx];obtain⟨N',hN'⟩:=hx.choose_spec;have a:=hN' (max N N') (Nat.le_max_right ..);have b:=h (max N N') (Nat.le_max_left ..);rw[a]at b;exact b
end
section
open Go
def intsL:List AVal->Option (List Int)
 |[]=>some []
 | .int .i64 n::l=>(intsL l).map (n :: ·)
 |_=>none
def yx_(zs:List Int):List Int:=zs.mergeSort fun x y=>decide (x<=y)
def sortS(v:AVal)(σ:Heap):Option (Unit×Heap):=match v with
 | .sl l off len _=>match σ.get l with
  |some (.cells .rw 1 cs)=>if 0<len/\off+len<=cs.length/\len<4611686018427387904 then(match intsL ((cs.drop off).take len) with
   |some zs=>some ((),σ.set l (.cells .rw 1 (cs.take off++(yx_ zs).map (.int .i64)++cs.drop (off+len))))
   |none=>none)else none
  |_=>none
 |_=>none
theorem yao_(zs:List Int):intsL (zs.map (.int .i64))=some zs:=by
 induction zs with
 |nil=>rfl
 |cons n l ih=>simp[intsL,ih]
theorem y3u_(zs:List Int):(yx_ zs).length=zs.length:=List.length_mergeSort ..
end
section
open Go
def inB(n:Int):Bool:=decide (-1152921504606846976<=n)&&decide (n<=1152921504606846976)
def ordL(a b:Int):Bool:=decide (a.natAbs<b.natAbs)||(decide (a.natAbs=b.natAbs)&&decide (a<=b))
def yf_(zs:List Int):List Int:=zs.mergeSort ordL
def y4l_(O:FuncId)(v f:AVal)(σ:Heap):Option (Unit×Heap):=match f with
 | .fn (.func g) [] []=>if g=O then(match v with
  | .nils=>some ((),σ)
  | .sl l off len _=>if len=0 then some ((),σ) else(match σ.get l with
   |some (.cells .rw 1 cs)=>if off+len<=cs.length/\len<4611686018427387904 then(match intsL ((cs.drop off).take len) with
    |some zs=>if zs.all inB=true then some ((),σ.set l (.cells .rw 1 (cs.take off++(yf_ zs).map (.int .i64)++cs.drop (off+len))))else none
    |none=>none)else none
   |_=>none)
  |_=>none)else none
 |_=>none
theorem y3f_(zs:List Int):(yf_ zs).length=zs.length:=List.length_mergeSort ..
end
section
open Go Go.RowKit
structure Upd(b:Nat)(w w':World):Prop where
 os:w'.os=w.os
 tape:w'.tape=w.tape
 output:w'.output=w.output
 size:w.heap.size<=w'.heap.size
 block:∀k,k≠b->k<w.heap.size->w'.heap[k]?=w.heap[k]?
theorem Upd.below{B:Nat->Prop}{b:Nat}{w w':World}(h:Upd b w w')(hB:¬B b)(hs:∀k,B k->k<w.heap.size):Keeps B w w':=
 ⟨h.os,h.tape,h.output,h.size,fun k hk=>h.block k (fun e=>hB (e▸hk)) (hs k hk)⟩
theorem Upd.trans{b:Nat}{w w' w'':World}(h:Upd b w w')(k:Upd b w' w''):Upd b w w'':=
 ⟨k.os.trans h.os,k.tape.trans h.tape,k.output.trans h.output,Nat.le_trans h.size k.size,fun i hi hl=>(k.block i hi (Nat.lt_of_lt_of_le hl h.size)).trans (h.block i hi hl)⟩
theorem ObjR.mono{m m':Nat->Option Pl}{p:Pl}{o:AObj}{w w':World}(h:ObjR m p o w)(S:Sub m m')(hb:w'.heap[p.blk]?=w.heap[p.blk]?):ObjR m' p o w':=by
 cases o with
 |cells md sz cs=>
  obtain⟨c,e,fr,h1,h2,h3,h4,h5,h6,h7⟩:=h;refine⟨c,e,fr,by rw[hb];exact h1,h2,h3,h4,h5,h6,fun i a hi=>?_⟩;obtain⟨v,k1,k2,k3⟩:=h7 i a hi;exact⟨v,k1,VR.mono S a v k2,k3⟩
 |map es=>
  obtain⟨c,e,h1,h2,h3,h4⟩:=h;refine⟨c,e,by rw[hb];exact h1,h2,fun i k v hi=>?_,h4⟩;obtain⟨x,k1,k2,k3⟩:=h3 i k v hi;exact⟨x,k1,VR.mono S _ _ k2,VR.mono S _ _ k3⟩
theorem R.upd{B:Nat->Prop}{w0:Base}{m m':Nat->Option Pl}{σ σ':Heap}{w w':World}{b l:Nat}{o:AObj}{p:Pl}(h:R B w0 m σ w)(hf:Upd b w w')(hB:¬B b)
  (S:Sub m m') (hw:∀k,k<w0.n->m' k=m k) (hml:m' l=some p) (hp:p.blk=b) (hb:b<w'.heap.size)
  (hm:∀k q,m' k=some q->m k=some q\/(k=l/\q=p)) (hn:σ.next<=σ'.next) (hl:l<σ'.next)
  (hσ:∀k x,k≠l->σ'.get k=some x->σ.get k=some x/\∀q,m k=some q->q.blk≠b)
  (hσl:σ'.get l=some o) (ho:ObjR m' p o w'):R B w0 m' σ' w':=by
 have hold:∀k x,k≠l->σ'.get k=some x->∃q,m k=some q/\ObjR m q x w/\q.blk≠b/\q.blk<w.heap.size:=fun k x hk hx=>by
  obtain⟨h1,h2⟩:=hσ k x hk hx;obtain⟨q,h3,h4⟩:=h.obj k x h1;exact⟨q,h3,h4,h2 q h3,(h.dom k q h3).2⟩
 refine⟨fun k x hx=>?_,fun k q hq=>?_,fun k k' x x' q q' hne hx hx' hq hq' hrw=>?_,fun hpm k x q hx hrw hq=>?_,h.below.trans (hf.below hB h.base),fun k hk=>Nat.lt_of_lt_of_le (h.base k hk) hf.size,Nat.le_trans h.oldn hn,fun k hk=>(hw k hk).trans (h.old k hk)⟩
 ·by_cases hk:k=l
  ·subst hk;rw[hσl]at hx;cases hx;exact⟨p,hml,ho⟩
  ·obtain⟨q,h1,h2,h3,h4⟩:=hold k x hk hx
   exact⟨q,S _ _ h1,h2.mono S (hf.block _ h3 h4)⟩
 ·rcases hm k q hq with h1|⟨h1,h2⟩
  ·exact⟨Nat.lt_of_lt_of_le (h.dom k q h1).1 hn,Nat.lt_of_lt_of_le (h.dom k q h1).2 hf.size⟩
  ·subst h1 h2;exact⟨hl,by omega⟩
 ·by_cases hk:k=l
  ·subst hk
   rw[hml]at hq;cases hq;obtain⟨q2,h1,h2,h3,h4⟩:=hold k' x' (Ne.symm hne) hx';rw[S _ _ h1]at hq';cases hq';rw[hp];exact Ne.symm h3
  ·obtain⟨q2,h1,h2,h3,h4⟩:=hold k x hk hx
   rw[S _ _ h1]at hq;cases hq;by_cases hk':k'=l
   ·subst hk';rw[hml]at hq';cases hq';rw[hp];exact h3
   ·obtain⟨q3,g1,g2,g3,g4⟩:=hold k' x' hk' hx'
    rw[S _ _ g1]at hq';cases hq';exact h.excl k k' x x' _ _ hne (hσ k x hk hx).1 (hσ k' x' hk' hx').1 h1 g1 hrw
 ·by_cases hk:k=l
  ·subst hk;rw[hml]at hq;cases hq;rw[hp];exact hB
  ·obtain⟨q2,h1,h2,h3,h4⟩:=hold k x hk hx
   rw[S _ _ h1]at hq;cases hq;exact h.own hpm k x _ (hσ k x hk hx).1 hrw h1
theorem R.drawn{B:Nat->Prop}{w0:Base}{m:Nat->Option Pl}{σ:Heap}{w:World}(h:R B w0 m σ w)(n:Nat):R B w0 m σ { w with drawn:=n }:=
 ⟨fun l o hl=>let⟨p,h1,h2⟩:=h.obj l o hl;⟨p,h1,h2.mono (Sub.refl m) rfl⟩,h.dom,h.excl,h.own,⟨h.below.os,h.below.tape,h.below.output,h.below.size,h.below.block⟩,h.base,h.oldn,h.old⟩
def mset(m:Nat->Option Pl)(l:Nat)(p:Pl):Nat->Option Pl:=fun k=>if k=l then some p else m k
theorem R.fresh{B:Nat->Prop}{w0:Base}{m:Nat->Option Pl}{σ:Heap}{w:World}(h:R B w0 m σ w):m σ.next=none:=by
 cases hm:m σ.next with
 |none=>rfl
 |some p=>have:=(h.dom _ _ hm).1;omega
theorem Sub.mset{m:Nat->Option Pl}{l:Nat}(h:m l=none)(p:Pl):Sub m (mset m l p):=fun k q hk=>by
 unfold A.mset;rw[if_neg (fun e=>by subst e;rw[h]at hk;cases hk)];exact hk
theorem ybt_(m:Nat->Option Pl){n:Nat}(p:Pl):∀k,k<n->mset m n p k=m k:=fun k hk=>by
 unfold A.mset;rw[if_neg (by omega)]
theorem R.kill{B:Nat->Prop}{w0:Base}{m:Nat->Option Pl}{σ:Heap}{w:World}(h:R B w0 m σ w)(l:Nat):R B w0 m (σ.kill l) w:=by
 have hk:∀k x,(σ.kill l).get k=some x->σ.get k=some x:=fun k x hx=>by
  simp only[Heap.kill]at hx;by_cases e:k=l
  ·simp[e]at hx
  ·simpa[e]using hx
 exact⟨fun k x hx=>h.obj k x (hk k x hx),h.dom,fun k k' x x' q q' hne hx hx'=>h.excl k k' x x' q q' hne (hk _ _ hx) (hk _ _ hx'),fun hpm k x q hx=>h.own hpm k x q (hk _ _ hx),h.below,h.base,h.oldn,h.old⟩
theorem R.new{B:Nat->Prop}{w0:Base}{m:Nat->Option Pl}{σ:Heap}{w:World}(h:R B w0 m σ w)(o:AObj)(p:Pl)(ob:Obj)(n:Nat)(hp:p.blk=w.heap.size)
  (ho:ObjR (mset m σ.next p) p o { w with heap:=w.heap.push ob,drawn:=n }):R B w0 (mset m σ.next p) (σ.new o) { w with heap:=w.heap.push ob,drawn:=n }:=by
 refine R.upd (b:=w.heap.size) (l:=σ.next) (o:=o) (p:=p) h ⟨rfl,rfl,rfl,by simp,fun k hk hl=>?_⟩ (fun hb=>absurd (h.base _ hb) (Nat.lt_irrefl _)) (Sub.mset h.fresh p) (fun k hk=>ybt_ m p k (Nat.lt_of_lt_of_le hk h.oldn)) (by simp[mset]) hp (by simp) (fun k q hq=>?_) (by simp[Heap.new]) (by simp[Heap.new])
  (fun k x hk hx=>?_) (by simp[Heap.new]) ho
 ·show(w.heap.push ob)[k]?=_
  rw[Array.getElem?_push,if_neg (by omega)]
 ·unfold A.mset at hq
  by_cases e:k=σ.next
  ·rw[if_pos e]at hq;cases hq;exact .inr ⟨e,rfl⟩
  ·rw[if_neg e]at hq;exact .inl hq
 ·simp only[Heap.new,if_neg hk]at hx
  exact⟨hx,fun q hq=>by have:=(h.dom k q hq).2;omega⟩
theorem R.loc_lt{B:Nat->Prop}{w0:Base}{m:Nat->Option Pl}{σ:Heap}{w:World}(h:R B w0 m σ w){l:Nat}{o:AObj}(hl:σ.get l=some o):l<σ.next:=
 let⟨p,h1,_⟩:=h.obj l o hl;(h.dom l p h1).1
theorem R.cell{B:Nat->Prop}{w0:Base}{m:Nat->Option Pl}{σ:Heap}{w:World}(h:R B w0 m σ w){l o:Nat}{a:AVal}(hc:σ.cell l o=some a) :
  ∃p v,m l=some p/\w.cell? ⟨p.blk,p.start+o,none⟩=some v/\VR m a v/\v.oneCell'=true:=by
 unfold Heap.cell at hc;cases hg:σ.get l with
 |none=>simp[hg]at hc
 | some ob=>
  rw[hg]at hc;cases ob with
  |map es=>simp at hc
  |cells md sz cs=>
   obtain⟨p,h1,c,e,fr,h2,h3,h4,h5,h6,h7,h8⟩:=h.obj l _ hg;obtain⟨v,k1,k2,k3⟩:=h8 o a hc;exact⟨p,v,h1,by simp[World.cell?,h2,k1],k2,k3⟩
def y4j_:AVal->Bool
 | .agg _=>false
 | .tup _=>false
 |_=>true
theorem VR.one{m:Nat->Option Pl}:∀{a:AVal} {v:Value},VR m a v->y4j_ a=true->v.oneCell'=true
 | .bool _,_,h,_=>by simp only[VR]at h;subst h;rfl
 | .int _ _,_,h,_=>by simp only[VR]at h;subst h;rfl
 | .str _,_,h,_=>by simp only[VR]at h;subst h;rfl
 | .ptr _ _,_,h,_=>by simp only[VR]at h;obtain⟨p,_,rfl⟩:=h;rfl
 | .nilp,_,h,_=>by simp only[VR]at h;subst h;rfl
 | .sl _ _ _ _,_,h,_=>by simp only[VR]at h;obtain⟨p,cv,o,_,_,_,_,_,rfl⟩:=h;rfl
 | .nils,_,h,_=>by simp only[VR]at h;subst h;rfl
 | .box _,_,h,_=>by simp only[VR]at h;obtain⟨p,_,_,rfl⟩:=h;rfl
 | .map _,_,h,_=>by simp only[VR]at h;obtain⟨p,_,rfl⟩:=h;rfl
 | .nilm,_,h,_=>by simp only[VR]at h;subst h;rfl
 | .fn _ _ _,_,h,_=>by simp only[VR]at h;obtain⟨x,y,rfl,_⟩:=h;rfl
 | .nilf,_,h,_=>by simp only[VR]at h;subst h;rfl
 | .ifc _ _,_,h,_=>by simp only[VR]at h;obtain⟨y,rfl,_⟩:=h;rfl
 | .nili,_,h,_=>by simp only[VR]at h;subst h;rfl
 | .agg _,_,_,h=>by simp[y4j_]at h
 | .tup _,_,_,h=>by simp[y4j_]at h
theorem yau_{v:Value}(h:v.oneCell'=true):v.cells = #[v]:=by cases v<;>first|rfl|simp[Value.oneCell']at h
theorem ygg_{m:Nat->Option Pl}{v:Value}{a:AVal}(h:aOf v=some a):VR m a v/\y4j_ a=true:=by
 unfold aOf at h
 split at h<;>first|(simp at h;subst h;simp[VR,y4j_];done)|cases h
theorem y1j_{m:Nat->Option Pl}:∀{vs:List Value} {as0:List AVal},aOfs vs=some as0->VRs m as0 vs/\(∀u∈vs,u.oneCell'=true)
 |[],_,h=>by simp[aOfs]at h;subst h;simp[VRs]
 | v::vs,as0,h=>by
  simp only[aOfs]at h
  split at h
  ·rename_i a ha
   split at h
   ·rename_i as0' has
    simp at h;subst h;obtain⟨h1,h2⟩:=y1j_ (m:=m) has;obtain⟨h3,h4⟩:=ygg_ (m:=m) ha;refine⟨⟨v,vs,rfl,h3,h1⟩,fun u hu=>?_⟩;rcases List.mem_cons.1 hu with e|e
    ·subst e;exact h3.one h4
    ·exact h2 u e
   ·cases h
  ·cases h
theorem y39_(P:Program):∀(vs:List Value) (w:World) (b off i:Nat) (c:Array Value) (e:TypeId),w.heap[b]?=some (.cells c e (0,0)) ->
  (∀v∈vs,v.oneCell'=true)->off+i+vs.length<=c.size ->
  ∃w' c',(storeCells ⟨b,off,none⟩ vs i).run P w=.ok () w'/\Upd b w w'/\w'.heap.size=w.heap.size/\w'.heap[b]?=some (.cells c' e (0,0))/\c'.size=c.size /\
   ∀j,c'[j]?=if off+i<=j/\j<off+i+vs.length then vs[j-(off+i)]? else c[j]?
 |[],w,b,off,i,c,e,h,_,_=>⟨w,c,by simp[storeCells],⟨rfl,rfl,rfl,Nat.le_refl _,fun _ _ _=>rfl⟩,rfl,h,rfl,fun j=>by rw[if_neg (by simp)]⟩
 | v::vs,w,b,off,i,c,e,h,hv,hn=>by
  have hlen:off+i<c.size:=by simp at hn;omega
  have hadd:(⟨b,off,none⟩:Addr).add i=⟨b,off+i,none⟩:=by
   unfold Addr.add;split<;>simp_all
  have hcell:w.cell? ⟨b,off+i,none⟩=some c[off+i]:=by simp[World.cell?,h,hlen]
  have hfr:w.frozen? ⟨b,off+i,none⟩=false:=by simp[World.frozen?,h]
  have hbs:b<w.heap.size:=by
   rcases Nat.lt_or_ge b w.heap.size with h1|h1
   ·exact h1
   ·rw[Array.getElem?_eq_none h1]at h;cases h
  have hset:(w.setCell ⟨b,off+i,none⟩ v).heap[b]?=some (.cells (c.setIfInBounds (off+i) v) e (0,0)):=by
   simp[World.setCell,Array.getElem?_modify,h]
  have hU:Upd b w (w.setCell ⟨b,off+i,none⟩ v):=⟨rfl,rfl,rfl,by simp[World.setCell],fun k hk _=>by
   simp only[World.setCell,Array.getElem?_modify];rw[if_neg (by omega)]⟩
  obtain⟨w',c',h1,h2,h3,h4,h5,h6⟩:=y39_ P vs (w.setCell ⟨b,off+i,none⟩ v) b off (i+1) (c.setIfInBounds (off+i) v) e hset (fun u hu=>hv u (by simp[hu])) (by simp at hn⊢;omega);refine⟨w',c',?_,hU.trans h2,h3.trans (by simp[World.setCell]),h4,by simpa using h5,fun j=>?_⟩
  ·simp only[storeCells,Sem.run_bind,hadd]
   rw[run_store P w _ v _ (hv v (by simp))];simp only[hcell,hfr];exact h1
  ·rw[h6 j]
   by_cases hj:j=off+i
   ·subst hj
    rw[if_neg (by omega),if_pos (by simp)];simp[hlen]
   ·by_cases hj2:off+i<=j/\j<off+i+(v::vs).length
    ·rw[if_pos (by simp at hj2⊢;omega),if_pos hj2]
     rw[show j-(off+i)=(j-(off+(i+1)))+1 by omega];simp
    ·rw[if_neg (by simp at hj2⊢;omega),if_neg hj2]
     rw[Array.getElem?_setIfInBounds_ne (by omega)]
theorem y3t_{α:Type}(cs vs:List α)(o:Nat)(h:o+vs.length<=cs.length)(i:Nat) :
  (cs.take o++vs++cs.drop (o+vs.length))[i]?=if i<o then cs[i]? else if i<o+vs.length then vs[i-o]? else cs[i]?:=by
 by_cases h1:i<o
 ·rw[if_pos h1,List.append_assoc,List.getElem?_append_left (by simp;omega),List.getElem?_take,if_pos h1]
 ·rw[if_neg h1]
  by_cases h2:i<o+vs.length
  ·rw[if_pos h2,List.getElem?_append_left (by simp;omega),List.getElem?_append_right (by simp;omega)]
   congr 1;simp;omega
  ·rw[if_neg h2,List.getElem?_append_right (by simp;omega),List.getElem?_drop]
   congr 1;simp;omega
theorem y9g_{α:Type}(cs vs:List α)(o:Nat)(h:o+vs.length<=cs.length):(cs.take o++vs++cs.drop (o+vs.length)).length=cs.length:=by
 simp;omega
theorem R.store{B:Nat->Prop}{w0:Base}{m:Nat->Option Pl}{σ:Heap}{w:World}(P:Program)(h:R B w0 m σ w)(hpm:w0.pm=false){l sz o:Nat}{cs vs:List AVal}{us:List Value}{p:Pl}
  (hl:σ.get l=some (.cells .rw sz cs)) (hm:m l=some p) (hv:VRs m vs us) (h1:∀u∈us,u.oneCell'=true) (hn:o+vs.length<=cs.length) :
  ∃w',(storeCells ⟨p.blk,p.start+o,none⟩ us).run P w=.ok () w'/\R B w0 m (σ.set l (.cells .rw sz (cs.take o++vs++cs.drop (o+vs.length)))) w':=by
 obtain⟨p',hm',c,e,fr,g1,g2,g3,g4,g5,g6,g7⟩:=h.obj l _ hl;rw[hm]at hm';cases hm';have hfr:=g2 rfl;subst hfr;have hlen:=hv.length;obtain⟨w',c',k1,k2,k3,k4,k5,k6⟩:=y39_ P us w p.blk (p.start+o) 0 c e g1 h1 (by omega);refine⟨w',k1,?_⟩;refine R.upd (b:=p.blk) (l:=l) (o:=.cells .rw sz (cs.take o++vs++cs.drop (o+vs.length))) (p:=p) h k2 (h.own hpm l _ p hl rfl hm) (Sub.refl m) (fun _ _=>rfl) hm rfl (by rw[k3];exact(h.dom l p hm).2)
  (fun k q hq=>.inl hq) (by simp[Heap.set]) (by simpa[Heap.set] using(h.dom l p hm).1) (fun k x hk hx=>?_) (by simp[Heap.set]) ?_
 ·simp only[Heap.set,if_neg hk]at hx
  exact⟨hx,fun q hq=>Ne.symm (h.excl l k _ x p q (Ne.symm hk) hl hx hm hq rfl)⟩
 ·refine⟨c',e,(0,0),k4,fun _=>rfl,g3,g4,by rw[y9g_ _ _ _ hn];exact g5,by rw[k5];exact g6,fun i a hi=>?_⟩
  rw[y3t_ _ _ _ hn]at hi;rw[k6];by_cases i1:i<o
  ·rw[if_pos i1]at hi;rw[if_neg (by omega)];exact g7 i a hi
  ·rw[if_neg i1]at hi
   by_cases i2:i<o+vs.length
   ·rw[if_pos i2]at hi;rw[if_pos (by omega)]
    obtain⟨u,q1,q2⟩:=hv.get _ _ hi;rw[show p.start+i-(p.start+o+0)=i-o by omega];exact⟨u,q1,q2,h1 u (List.mem_of_getElem? q1)⟩
   ·rw[if_neg i2]at hi;rw[if_neg (by omega)];exact g7 i a hi
end
section
open Go Go.RowKit
structure TiOk(P:Program)(t:TypeId)(ti:TI)(i:TypeInfo)(d:TypeDesc)(z:Value):Prop where
 info:P.info? t=some i
 und:P.underlying t=some d
 zero:i.zero=some z
 zs:aOfs z.cells.toList=some ti.zero
 tk:ti.tk=tkOf d
 size:i.size=ti.size
 bytes:i.bytes=ti.bytes
 zlen:ti.zero.length=ti.size
 cmp:i.comparable=ti.cmp
 one:isAg ti.tk=false->z.oneCell'=true
theorem y3o_{P:Program}{t:TypeId}{ti:TI}(h:tiOf P t=some ti):∃i d z,TiOk P t ti i d z:=by
 unfold tiOf at h
 split at h
 ·rename_i i hi
  split at h
  ·rename_i d hd
   split at h
   ·rename_i z hz
    split at h
    ·rename_i cs hcs
     cases hb:(Nat.beq cs.length i.size&&(isAg (tkOf d)||z.oneCell')) with
     |false=>rw[hb]at h;cases h
     |true=>
      rw[hb]at h;simp only[cond_true,Option.some.injEq]at h;subst h;obtain⟨hb1,hb2⟩:=Bool.and_eq_true_iff.1 hb;exact⟨i,d,z,hi,hd,hz,hcs,rfl,rfl,rfl,Nat.eq_of_beq_eq_true hb1,rfl,fun ha=>by rw[ha]at hb2;exact hb2⟩
    ·cases h
   ·cases h
  ·cases h
 ·cases h
section
variable{P:Program}{t:TypeId}{ti:TI}{i:TypeInfo}{d:TypeDesc}{z:Value}(h:TiOk P t ti i d z)(w:World)
include h
theorem TiOk.run_und:(underlying t).run P w=.ok d w:=by simp[underlying,h.und]
theorem TiOk.run_info:(typeInfo t).run P w=.ok i w:=by simp[typeInfo,h.info]
theorem TiOk.run_size:(sizeOf t).run P w=.ok ti.size w:=by simp[sizeOf,h.run_info,h.size]
theorem TiOk.run_zero:(zeroValue t).run P w=.ok z w:=by simp[zeroValue,h.run_info,h.zero]
theorem TiOk.run_isAgg:(isAgg t).run P w=.ok (isAg ti.tk) w:=by
 simp only[isAgg,Sem.run_bind,h.run_und,Result.andThen_ok,h.tk];cases d<;>simp[tkOf,isAg]
theorem TiOk.z_len:z.cells.size=ti.size:=by
 have:=(y1j_ (m:=fun _=>none) h.zs).1.length;simpa[h.zlen]using this
end
theorem Cx.ti_spec{Rt:Type}{C:Cx}{t:TypeId}{K:TI->Option Rt}{r:Rt}(h:C.ti t K=some r):∃ti i d z,TiOk C.P t ti i d z/\K ti=some r:=by
 unfold Cx.ti at h
 split at h
 ·rename_i ti hti
  obtain⟨i,d,z,hh⟩:=y3o_ hti;exact⟨ti,i,d,z,hh,h⟩
 ·cases h
theorem yg_{Rt:Type}{k:Kd}{v:AVal}{K:k.ty->Option Rt}{r:Rt}(h:asK k v K=some r):∃x,k.val x=v/\K x=some r:=by
 unfold asK at h
 split at h
 ·split at h
  ·rename_i e;subst e;exact⟨_,rfl,h⟩
  ·cases h
 ·cases h
 ·exact⟨_,rfl,h⟩
 ·cases h
 ·exact⟨_,rfl,h⟩
 ·cases h
 ·exact⟨_,rfl,h⟩
structure EnvR(C:Cx)(m:Nat->Option Pl)(e:Env)(a:Act):Prop where
 tmp:∀t v,e.get t=some v->VR m v (a.tmps.getD t undef)
 glob:∀g,g<C.NG->∃p,m g=some p/\p.blk=g/\p.start=0
 size:a.tmps.size=C.n
theorem EnvR.mono{C:Cx}{m m':Nat->Option Pl}{e:Env}{a:Act}(h:EnvR C m e a)(S:Sub m m'):EnvR C m' e a:=
 ⟨fun t v ht=>VR.mono S _ _ (h.tmp t v ht),fun g hg=>let⟨p,h1,h2⟩:=h.glob g hg;⟨p,S _ _ h1,h2⟩,h.size⟩
theorem y5_{Rt:Type}{C:Cx}{m:Nat->Option Pl}{e:Env}{a:Act}{x:Operand}{K:AVal->Option Rt}{r:Rt}(hE:EnvR C m e a)(h:ev C e x K=some r) :
  ∃v,K v=some r/\VR m v (a.eval x):=by
 cases x with
 |tmp t=>
  simp only[ev]at h
  split at h
  ·rename_i v hv;exact⟨v,h,hE.tmp t v hv⟩
  ·cases h
 |const v=>
  simp only[ev]at h
  split at h
  ·rename_i u hu;exact⟨u,h,(ygg_ hu).1⟩
  ·cases h
 | global g=>
  simp only[ev]at h;cases hb:Nat.blt g C.NG with
  |false=>rw[hb]at h;cases h
  |true=>
   rw[hb]at h;obtain⟨p,h1,h2,h3⟩:=hE.glob g (by simpa[Nat.blt_eq]using hb);exact⟨_,h,by simp only[VR];exact⟨p,h1,by simp[Act.eval,h2,h3]⟩⟩
 |func f=>
  simp only[ev]at h;exact⟨_,h,by simp only[VR];exact⟨[],[],rfl,by simp[VRs],by simp[VRs]⟩⟩
theorem y4o_{Rt:Type}{C:Cx}{m:Nat->Option Pl}{e:Env}{a:Act}(hE:EnvR C m e a):∀{xs:List Operand} {K:List AVal->Option Rt} {r:Rt},evs C e xs K=some r ->
  ∃vs,K vs=some r/\VRs m vs (xs.map a.eval)
 |[],K,r,h=>⟨[],h,by simp[VRs]⟩
 |x::xs,K,r,h=>by
  simp only[evs]at h;obtain⟨v,h1,h2⟩:=y5_ hE h;obtain⟨vs,h3,h4⟩:=y4o_ hE h1;exact⟨v::vs,h3,⟨_,_,rfl,h2,h4⟩⟩
theorem yap_{Rt:Type}{v:AVal}{X:Option Rt}{r:Rt}(h:scal v X=some r):X=some r/\y4j_ v=true:=by
 unfold scal at h
 split at h
 ·cases h
 ·cases h
 ·exact⟨h,by unfold y4j_;split<;>simp_all⟩
theorem y4g_{Rt:Type}{m:Nat->Option Pl}{i:TI}{v:AVal}{cv:Value}{K:List AVal->Option Rt}{r:Rt}(hv:VR m v cv)(h:y1x_ i v K=some r) :
  ∃vs,K vs=some r/\VRs m vs cv.cells.toList/\(∀u∈cv.cells.toList,u.oneCell'=true)/\vs.length=i.size:=by
 unfold y1x_ at h;cases hb:isAg i.tk with
 | true=>
  rw[hb]at h;simp only[cond_true,aggK]at h
  split at h
  ·rename_i cs
   split at h
   ·simp only[VR]at hv
    obtain⟨us,rfl,h1,h2⟩:=hv;exact⟨cs,h,by simpa[Value.cells]using h1,by simpa[Value.cells]using h2,by assumption⟩
   ·cases h
  ·cases h
 | false=>
  rw[hb]at h;simp only[cond_false]at h;cases hn:Nat.beq i.size 1 with
  |false=>rw[hn]at h;cases h
  |true=>
   rw[hn]at h;simp only[cond_true]at h;obtain⟨h1,h2⟩:=yap_ h;have h3:=hv.one h2;have h4:=Nat.eq_of_beq_eq_true hn;rw[yau_ h3];exact⟨[v],h1,⟨cv,[],by simp,hv,by simp[VRs]⟩,by simpa using h3,by simp[h4]⟩
def y3n_{Rt:Type}(B:Nat->Prop)(w0:Base)(m:Nat->Option Pl)(K:AVal->Heap->Option Rt)(r:Rt)(cv:Value)(w':World):Prop:=
 ∃v σ' m',K v σ'=some r/\Sub m m'/\R B w0 m' σ' w'/\VR m' v cv
def Yield{Rt:Type}(P:Program)(B:Nat->Prop)(w0:Base)(m:Nat->Option Pl)(K:AVal->Heap->Option Rt)(r:Rt)(s:Sem Value)(w:World):Prop:=
 ∃cv w',s.run P w=.ok cv w'/\y3n_ B w0 m K r cv w'
theorem Yield.pure{Rt:Type}{P:Program}{B:Nat->Prop}{w0:Base}{m:Nat->Option Pl}{σ:Heap}{K:AVal->Heap->Option Rt}{r:Rt}{v:AVal}{cv:Value}{s:Sem Value}{w:World}
  (h:s.run P w=.ok cv w) (hR:R B w0 m σ w) (hv:VR m v cv) (hk:K v σ=some r):Yield P B w0 m K r s w:=
 ⟨cv,w,h,v,σ,m,hk,Sub.refl m,hR,hv⟩
section
variable{Rt:Type}{P:Program}{B:Nat->Prop}{w0:Base}{m:Nat->Option Pl}{σ:Heap}{w:World}{K:AVal->Heap->Option Rt}{r:Rt}
theorem y2l_(b o n:Nat):(⟨b,o,none⟩:Addr).add n=⟨b,o+n,none⟩:=by unfold Addr.add;split<;>simp_all
theorem ya9_{K:AVal->Option Rt}{t:TypeId}{ti:TI}{i:TypeInfo}{d:TypeDesc}{z:Value}(ht:TiOk P t ti i d z)(hR:R B w0 m σ w){a:AVal}{ca:Value}(ha:VR m a ca)
  (h:loadK ti σ a K=some r):∃v cv,(Instr.loadAt t ca).run P w=.ok cv w/\K v=some r/\VR m v cv:=by
 unfold loadK at h;cases hb:isAg ti.tk with
 | true=>
  rw[hb]at h;simp only[cond_true,ldG]at h
  split at h
  ·rename_i l o
   split at h
   ·rename_i md sz cs hg
    split at h
    ·rename_i hn
     simp only[VR]at ha;obtain⟨p,hp,rfl⟩:=ha;obtain⟨p',hp',c,e,fr,g1,g2,g3,g4,g5,g6,g7⟩:=hR.obj l _ hg;rw[hp]at hp';cases hp';have hc:∀j,j<ti.size->∃v,c[p.start+o+j]?=some v/\VR m (cs.getD (o+j) (.tup [])) v/\v.oneCell'=true:=fun j hj=>by
      have hlt:o+j<cs.length:=by omega
      obtain⟨v,q1,q2,q3⟩:=g7 (o+j) _ (List.getElem?_eq_getElem hlt);exact⟨v,by rw[Nat.add_assoc];exact q1,by simpa[List.getD,hlt]using q2,q3⟩
     let us:List Value:=(List.range ti.size).map fun j=>c[p.start+o+j]?.getD undef
     have hus:∀j,j<ti.size->us[j]?=c[p.start+o+j]?:=fun j hj=>by
      obtain⟨v,q1,_,_⟩:=hc j hj;simp[us,hj,q1]
     have hlen:us.length=ti.size:=by simp[us]
     refine⟨.agg ((cs.drop o).take ti.size),.agg us.toArray,?_,h,?_⟩
     ·simp only[Instr.loadAt,Instr.sureAddr,loadVar,Sem.run_bind,Sem.run_pure,Result.andThen_ok,ht.run_isAgg,hb,if_true,ht.run_size]
      rw[<-hlen,run_loadCells_list w _ us (fun j v hj=>?_)]
      ·rfl
      ·have hjl:j<ti.size:=by rw[<-hlen];exact(List.getElem?_eq_some_iff.1 hj).1
       rw[y2l_];simp only[World.cell?,g1];rw[hus j hjl]at hj;simpa using hj
     ·simp only[VR]
      refine⟨us,rfl,VRs.of_get (by simp[hlen];omega) (fun j x hx=>?_),fun u hu=>?_⟩
      ·have hjl:j<ti.size:=by
        have:=(List.getElem?_eq_some_iff.1 hx).1;simp at this;omega
       obtain⟨v,q1,q2,q3⟩:=hc j hjl;refine⟨v,by rw[hus j hjl];exact q1,?_⟩;rw[List.getElem?_take,if_pos hjl,List.getElem?_drop]at hx;simp[List.getD,hx]at q2;exact q2
      ·obtain⟨j,hj,rfl⟩:=List.getElem_of_mem hu
       obtain⟨v,q1,q2,q3⟩:=hc j (by omega);have h1:=hus j (by omega);rw[List.getElem?_eq_getElem hj,q1]at h1;cases h1;exact q3
    ·cases h
   ·cases h
  ·cases h
 | false=>
  rw[hb]at h;simp only[cond_false,ld]at h
  split at h
  ·rename_i l o
   split at h
   ·rename_i v hc
    obtain⟨x,h1,h2⟩:=yg_ h;rw[h1]at h2;simp only[VR]at ha;obtain⟨p,hp,rfl⟩:=ha;obtain⟨p',u,g1,g2,g3,g4⟩:=hR.cell hc;rw[hp]at g1;cases g1;refine⟨v,u,?_,h2,g3⟩;simp only[Instr.loadAt,Instr.sureAddr,loadVar,Sem.run_bind,Sem.run_pure,Result.andThen_ok,ht.run_isAgg,hb,Bool.false_eq_true,if_false,run_load,g2]
   ·cases h
  ·cases h
theorem yf2_{t:TypeId}{ti:TI}{i:TypeInfo}{d:TypeDesc}{z:Value}(ht:TiOk P t ti i d z)(hR:R B w0 m σ w){a:AVal}{ca:Value}(ha:VR m a ca)
  (h:loadK ti σ a (fun v=>K v σ)=some r):Yield P B w0 m K r (Instr.loadAt t ca) w:=
 let⟨_,_,h1,h2,h3⟩:=ya9_ ht hR ha h
 Yield.pure h1 hR h3 h2
theorem ycj_{t:TypeId}{ti:TI}{i:TypeInfo}{d:TypeDesc}{z:Value}(ht:TiOk P t ti i d z)(hR:R B w0 m σ w)(hpm:w0.pm=false){a v:AVal}{ca cv:Value}{K:Heap->Option Rt}(ha:VR m a ca)(hv:VR m v cv)
  (h:y1x_ ti v (fun vs=>stC σ a vs K)=some r):∃w' σ',(Instr.storeAt t ca cv).run P w=.ok () w'/\R B w0 m σ' w'/\K σ'=some r:=by
 obtain⟨vs,h1,h2,h3,h4⟩:=y4g_ hv h;unfold stC at h1
 split at h1
 ·rename_i l o
  split at h1
  ·rename_i sz cs hg
   split at h1
   ·rename_i hn
    simp only[VR]at ha;obtain⟨p,hp,rfl⟩:=ha;obtain⟨w',k1,k2⟩:=hR.store P hpm (us:=cv.cells.toList) hg hp h2 h3 hn;refine⟨w',_,?_,k2,h1⟩;have hsz:cv.cells.size=ti.size:=by have:=h2.length;simpa[h4]using this
    simp only[Instr.storeAt,Instr.sureAddr,storeVar,Sem.run_bind,Sem.run_pure,Result.andThen_ok,ht.run_size,hsz,ne_eq,not_true,if_false];exact k1
   ·cases h1
  ·cases h1
 ·cases h1
end
end
section
open Go Go.RowKit
theorem wrap_i64{n:Int}(h : -9223372036854775808<=n)(k:n<=9223372036854775807):IntKind.i64.wrap n=n:=by
 have e:(2:Int) ^ 64=18446744073709551616:=by decide
 have e2:(2:Int) ^ (64-1)=9223372036854775808:=by decide
 simp only[IntKind.wrap,IntKind.bits,IntKind.signed,Bool.true_and,decide_eq_true_eq,e,e2]
 split<;>omega
theorem y27_(n:Nat)(z:List AVal):(rep n z).length=n*z.length:=by
 induction n with
 |zero=>simp[rep]
 |succ n ih=>simp[rep,ih,Nat.succ_mul];omega
theorem y57_(z:List AVal)(hz:0<z.length):∀(n j:Nat),j<n*z.length->(rep n z)[j]?=z[j % z.length]?
 |0,j,h=>by simp at h
 | n+1,j,h=>by
  simp only[rep];by_cases hj:j<z.length
  ·rw[List.getElem?_append_left hj,Nat.mod_eq_of_lt hj]
  ·rw[List.getElem?_append_right (by omega),y57_ z hz n (j-z.length) (by rw[Nat.succ_mul]at h;omega)]
   rw[Nat.mod_eq_sub_mod (Nat.le_of_not_lt hj)]
section
variable{Rt:Type}{P:Program}{B:Nat->Prop}{w0:Base}{m:Nat->Option Pl}{σ:Heap}{w:World}{K:AVal->Heap->Option Rt}{r:Rt}
theorem R.row(hR:R B w0 m σ w){sz cap:Nat}{cs:List AVal}{c:Array Value}(e:TypeId)(n:Nat)(hc:cs.length<=cap*sz)(hs:cap*sz<=c.size)
  (hg:∀(i:Nat) (a:AVal),cs[i]?=some a->∃v,c[i]?=some v/\VR m a v/\v.oneCell'=true) :
  Sub m (mset m σ.next ⟨w.heap.size,0,cap,sz⟩)/\R B w0 (mset m σ.next ⟨w.heap.size,0,cap,sz⟩) (σ.new (.cells .rw sz cs)) { w with heap:=w.heap.push (.cells c e (0,0)),drawn:=n }:=by
 refine⟨Sub.mset hR.fresh _,hR.new _ ⟨w.heap.size,0,cap,sz⟩ _ n rfl ⟨c,e,(0,0),by simp,fun _=>rfl,rfl,trivial,hc,by simpa using hs,fun i a hi=>?_⟩⟩;obtain⟨v,h1,h2,h3⟩:=hg i a hi;exact⟨v,by simpa using h1,VR.mono (Sub.mset hR.fresh _) _ _ h2,h3⟩
theorem y1c_(l:Nat)(p:Pl):mset m l p l=some p:=by simp[mset]
theorem y95_{t el:TypeId}{ei:TI}{i:TypeInfo}{d:TypeDesc}{z:Value}(hu:P.underlying t=some (.slice el))(ht:TiOk P el ei i d z)(hR:R B w0 m σ w){k1 k2:IntKind}{len cap:Int}
  (h:mkS σ ei.size ei.bytes ei.zero len cap K=some r):Yield P B w0 m K r (Instr.makeSlice t (.int k1 len) (.int k2 cap)) w:=by
 unfold mkS at h
 split at h
 ·rename_i hc
  obtain⟨c1,c2,c3,c4⟩:=hc;simp only[newK]at h;have w1:IntKind.i64.wrap len=len:=wrap_i64 (by omega) (by omega);have w2:IntKind.i64.wrap cap=cap:=wrap_i64 (by omega) (by omega);have hcap:((cap.toNat:Nat):Int)=cap:=Int.toNat_of_nonneg (by omega);have hb:((i.bytes:Int))*cap<=281474976710656:=by
   rw[ht.bytes,Int.mul_comm];omega
  have hrun:(Instr.makeSlice t (.int k1 len) (.int k2 cap)).run P w=.ok (.slice (some ⟨w.heap.size,0,none⟩) len.toNat cap.toNat)
    { w with heap:=w.heap.push (.cells ((Array.range (cap.toNat*ei.size)).map ((if cap.toNat*ei.size=0 then #[]else z.cells)[· % (if cap.toNat*ei.size=0 then #[]else z.cells).size]!)) el (0,0)) }:=by
   have t1:((cap<0)||((i.bytes:Int)*cap>2 ^ 48))=false:=by
    rw[Bool.or_eq_false_iff];exact⟨by simp;omega,by simp;omega⟩
   simp only[Instr.makeSlice,Sem.run_bind,asInt,asIntOf,Sem.run_pure,Result.andThen_ok,ht.run_info,w1,w2,ht.run_size,underlying,run_program,hu];have t2:(((cap<0)||((i.bytes:Int)*cap>2 ^ 48))||(len<0)||(len>cap))=false:=by
    rw[t1];simp;omega
   simp only[t2,Bool.false_eq_true,if_false,Result.andThen_ok,run_askRoom,Sem.run_ite,Sem.run_bind,Sem.run_pure,ht.run_zero]
   split<;>simp_all [newRow,ht.run_size]
  refine⟨_,_,hrun,?_⟩;have hz:=ht.zlen;have hzl:=ht.z_len;obtain⟨q1,q2⟩:=hR.row (sz:=ei.size) (cap:=cap.toNat) (cs:=rep cap.toNat ei.zero)
   (c:=(Array.range (cap.toNat*ei.size)).map ((if cap.toNat*ei.size=0 then #[]else z.cells)[· % (if cap.toNat*ei.size=0 then #[]else z.cells).size]!)) el w.drawn
   (by rw[y27_,hz];omega) (by simp) (fun j a hj=>by
    have hlt:j<cap.toNat*ei.size:=by
     have:=(List.getElem?_eq_some_iff.1 hj).1;rw[y27_,hz]at this;exact this
    have hpos:0<ei.size:=by
     rcases Nat.eq_zero_or_pos ei.size with e|e
     ·rw[e]at hlt;simp at hlt
     ·exact e
    rw[if_neg (by omega)];rw[y57_ _ (by omega) _ _ (by rw[hz];exact hlt),hz]at hj;obtain⟨u1,u2⟩:=y1j_ (m:=m) ht.zs;obtain⟨v,v1,v2⟩:=u1.get _ _ hj;refine⟨v,?_,v2,u2 v (List.mem_of_getElem? v1)⟩;have hm:j % ei.size<z.cells.size:=by rw[hzl];exact Nat.mod_lt _ hpos
    simp only[Array.getElem?_map,Array.getElem?_range,hlt,if_true,Option.map_some,hzl];rw[getElem!_pos z.cells _ hm];rw[Array.getElem?_toList,Array.getElem?_eq_getElem hm]at v1;exact v1)
  refine⟨_,_,_,h,q1,q2,?_⟩;simp only[VR];exact⟨_,cap.toNat,_,y1c_ _ _,fun _=>by simp,fun k hk=>(by cases hk),by omega,fun _=>by simp,rfl⟩
 ·cases h
theorem y17_(x:Int)(k:IntKind)(y:Nat)(code:BoundsCode)(h0:0<=x)(h1:x<=y)(w:World):(Instr.sliceBound (.int k x) y code).run P w=.ok x.toNat w:=by
 simp[Instr.sliceBound,asIntOf,h0,h1]
def capM(mx:Option Int)(cap:Nat):Nat:=match mx with
 |some x=>x.toNat
 |none=>cap
def optV(m:Nat->Option Pl):Option Int->Option Value->Prop
 |none,v=>v=none
 |some n,v=>∃k,v=some (.int k n)
theorem y31_{b:Bool}{len cap:Nat}{lo hi mx:Option Int}{cl ch cm:Option Value}(hlo:optV m lo cl)(hhi:optV m hi ch)(hmx:optV m mx cm)(hlc:len<=cap)
  (h0:0<=lo.getD 0) (h1:lo.getD 0<=hi.getD len) (h2:hi.getD len<=mx.getD len) (h3:mx.getD len<=len) (h4:(mx.isNone||hi.isSome)=true) (w:World) :
  (Instr.sliceBounds b len cap cl ch cm).run P w=.ok ((lo.getD 0).toNat,(hi.getD len).toNat,capM mx cap) w:=by
 have hmi:0<=mx.getD len:=by omega
 cases mx with
 | none=>
  simp only[optV]at hmx;subst hmx;simp only[Option.getD_none]at h2 h3;cases hi with
  | none=>
   simp only[optV]at hhi;subst hhi;simp only[Option.getD_none]at h1 h2;cases lo with
   |none=>simp only[optV]at hlo;subst hlo;simp[Instr.sliceBounds,capM]
   |some x=>
    obtain⟨k,rfl⟩:=hlo;simp only[Option.getD_some]at h0 h1;simp[Instr.sliceBounds,capM,y17_ x k _ _ h0 h1]
  | some y=>
   obtain⟨k,rfl⟩:=hhi;simp only[Option.getD_some]at h1 h2;have e1:(Instr.sliceBound (.int k y) cap (if b=true then .sliceAcap else .sliceAlen)).run P w=.ok y.toNat w:=y17_ y k _ _ (by omega) (by omega) w;cases lo with
   |none=>simp only[optV]at hlo;subst hlo;simp[Instr.sliceBounds,capM,e1]
   |some x=>
    obtain⟨k',rfl⟩:=hlo;simp only[Option.getD_some]at h0 h1;have e2:(Instr.sliceBound (.int k' x) y.toNat .sliceB).run P w=.ok x.toNat w:=y17_ x k' _ _ h0 (by omega) w;simp[Instr.sliceBounds,capM,e1,e2]
 | some y=>
  obtain⟨km,rfl⟩:=hmx;simp only[Option.getD_some]at h2 h3 hmi;have e0:(Instr.sliceBound (.int km y) cap (if b=true then .slice3Acap else .slice3Alen)).run P w=.ok y.toNat w:=y17_ y km _ _ hmi (by omega) w;cases hi with
  |none=>simp at h4
  | some u=>
   obtain⟨k,rfl⟩:=hhi;simp only[Option.getD_some]at h1 h2;have e1:(Instr.sliceBound (.int k u) y.toNat .slice3B).run P w=.ok u.toNat w:=y17_ u k _ _ (by omega) (by omega) w;cases lo with
   |none=>simp only[optV]at hlo;subst hlo;simp[Instr.sliceBounds,capM,e0,e1]
   |some x=>
    obtain⟨k',rfl⟩:=hlo;simp only[Option.getD_some]at h0 h1;have e2:(Instr.sliceBound (.int k' x) u.toNat .slice3C).run P w=.ok x.toNat w:=y17_ x k' _ _ h0 (by omega) w;simp[Instr.sliceBounds,capM,e0,e1,e2]
theorem yd2_{t el:TypeId}{ei:TI}{i:TypeInfo}{d:TypeDesc}{z:Value}(hu:P.underlying t=some (.slice el))(ht:TiOk P el ei i d z)(hR:R B w0 m σ w){v:AVal}{cv:Value}(hv:VR m v cv)
  {lo hi mx:Option Int} {cl ch cm:Option Value} (hlo:optV m lo cl) (hhi:optV m hi ch) (hmx:optV m mx cm)
  (h:slS σ ei.size v (lo.getD 0) hi mx (fun v=>K v σ)=some r):Yield P B w0 m K r (Instr.sliceAt t cv cl ch cm) w:=by
 unfold slS at h
 split at h
 ·split at h
  ·rename_i hc
   obtain⟨c1,c2,c3,c4⟩:=hc;simp only[VR]at hv;subst hv;refine Yield.pure (cv:=.slice none 0 0) (v:=.nils) ?_ hR (by simp[VR]) h;have:=y31_ (P:=P) (b:=true) (len:=0) (cap:=0) hlo hhi hmx (Nat.le_refl _) (by omega) (by simp;omega) (by simp;omega) (by simp;omega) c4 w;have hm:capM mx 0=0:=by
    cases mx with
    |none=>rfl
    |some x=>simp at c3;simp[capM,c3]
   simp only[Int.ofNat_zero,Int.natCast_zero]at this;simp[Instr.sliceAt,Instr.slice,underlying,hu,this,ht.run_size,hm,c1,c2]
  ·cases h
 ·rename_i l off len c
  split at h
  ·rename_i md sz' cs hg
   split at h
   ·rename_i hc
    obtain⟨c1,c2,c3,c4,c5,c6⟩:=hc;simp only[VR]at hv;obtain⟨p,capv,o,p1,p2,p3,p4,p5,rfl⟩:=hv;obtain⟨p',hp',g⟩:=hR.obj l _ hg;rw[p1]at hp';cases hp';obtain⟨ca,e,fr,g1,g2,g3,g4,g5,g6,g7⟩:=g;have hb:=y31_ (P:=P) (b:=true) (len:=len) (cap:=capv) hlo hhi hmx p4 c2 c3 c4 c5 c6 w;refine Yield.pure (v:=.sl l (off+(lo.getD 0).toNat) ((hi.getD len).toNat-(lo.getD 0).toNat) (y19_ mx c (lo.getD 0))) (cv:=.slice (if capM mx capv=(lo.getD 0).toNat then some o else(some o:Option Addr).map (·.add ((lo.getD 0).toNat*ei.size)))
      ((hi.getD len).toNat-(lo.getD 0).toNat) (capM mx capv-(lo.getD 0).toNat)) ?_ hR ?_ h
    ·simp[Instr.sliceAt,Instr.slice,underlying,hu,hb,ht.run_size]
    ·have hM:∀M:Nat,capM mx capv=M->M<=capv/\(lo.getD 0).toNat<=M/\(hi.getD len).toNat<=M/\(mx=none->M=capv)/\(∀x,mx=some x->M=x.toNat):=fun M hM=>by
      subst hM;cases mx with
      |none=>simp only[Option.getD_none]at c4 c5;simp only[capM];exact⟨Nat.le_refl _,by omega,by omega,fun _=>trivial,fun x hx=>(by cases hx)⟩
      |some x=>simp only[Option.getD_some]at c4 c5;simp only[capM];exact⟨by omega,by omega,by omega,fun hx=>(by cases hx),fun y hy=>(by cases hy;rfl)⟩
     obtain⟨M,hMe⟩:∃M,capM mx capv=M:=⟨_,rfl⟩;obtain⟨m1,m2,m3,m4,m5⟩:=hM M hMe;rw[hMe];simp only[VR];refine⟨p,M-(lo.getD 0).toNat,(if M=(lo.getD 0).toNat then o else o.add ((lo.getD 0).toNat*ei.size)),p1,fun hcl=>?_,fun k hk=>?_,by omega,fun hne=>?_,?_⟩
     ·unfold y19_ at hcl
      cases mx with
      |some x=>cases hcl
      |none=>
       cases c with
       |some k=>cases hcl
       |none=>have:=p2 rfl;have:=m4 rfl;omega
     ·unfold y19_ at hk
      have hcap:off+capv<=p.cap:=by
       cases c with
       |none=>have:=p2 rfl;omega
       |some k=>obtain⟨x1,x2⟩:=p3 k rfl;omega
      cases mx with
      |some x=>cases hk;have:=m5 x rfl;exact⟨by omega,by omega⟩
      | none=>
       cases c with
       |none=>cases hk
       |some k'=>
        cases hk;obtain⟨x1,x2⟩:=p3 k' rfl;have:=m4 rfl;exact⟨by omega,by omega⟩
     ·rw[if_neg (by omega),p5 (by omega),y2l_,g3,<-c1,Nat.add_mul,Nat.add_assoc]
     ·by_cases e:M=(lo.getD 0).toNat
      ·simp[e]
      ·simp only[if_neg e,Option.map_some]
   ·cases h
  ·cases h
 ·cases h
end
end
section
open Go Go.RowKit
theorem yb4_(newLen X:Nat)(hX:newLen+(newLen+768) / 4<=X):∀(n c:Nat),c<=X->Builtin.growBy newLen n c<=X
 |0,c,h=>h
 | n+1,c,h=>by
  simp only[Builtin.growBy]
  split
  ·exact h
  ·rename_i hc
   exact yb4_ newLen X hX n _ (by omega)
theorem y9d_(newLen oldCap:Nat)(h:oldCap<newLen):Builtin.nextslicecap newLen oldCap<=2*newLen:=by
 unfold Builtin.nextslicecap
 split
 ·omega
 ·split
  ·omega
  ·exact yb4_ _ _ (by omega) _ _ (by omega)
theorem y52_(z:Array Value)(n:Nat):(Builtin.zeroCells z n).size=n*z.size:=by simp[Builtin.zeroCells]
section
variable{Rt:Type}{P:Program}{B:Nat->Prop}{w0:Base}{m:Nat->Option Pl}{σ:Heap}{w:World}{r:Rt}
structure SrcOk(P:Program)(m:Nat->Option Pl)(w:World)(sz:Nat)(x:Value)(xs:List AVal)(n:Nat)(us:List Value):Prop where
 len:∀w':World,(Builtin.lenOf x).run P w'=.ok n w'
 cells:∀w':World,w'.heap=w.heap->(Builtin.firstCells sz n x).run P w'=.ok us.toArray w'
 vr:VRs m xs us
 one:∀u∈us,u.oneCell'=true
 ulen:us.length=n*sz
theorem y23_{sz:Nat}{p:Pl}{cs:List AVal}{off len:Nat}{o:Addr}{cv:Nat}(hR:R B w0 m σ w){l:Nat}{md:Md}(hg:σ.get l=some (.cells md sz cs))(hp:m l=some p)
  (hlen:len<=cv) (ho:cv≠0->o=⟨p.blk,p.start+off*p.sz,none⟩) (hc:(off+len)*sz<=cs.length) :
  ∃us:List Value,(∀w':World,w'.heap=w.heap->(Builtin.firstCells sz len (.slice (some o) len cv)).run P w'=.ok us.toArray w') /\
   VRs m ((cs.drop (off*sz)).take (len*sz)) us/\(∀u∈us,u.oneCell'=true)/\us.length=len*sz:=by
 obtain⟨p',hp',ca,e,fr,g1,g2,g3,g4,g5,g6,g7⟩:=hR.obj l _ hg;rw[hp]at hp';cases hp';have hmul:(off+len)*sz=off*sz+len*sz:=Nat.add_mul _ _ _;have hcell:∀j,j<len*sz->∃a v,cs[off*sz+j]?=some a/\ca[p.start+(off*sz+j)]?=some v/\VR m a v/\v.oneCell'=true:=fun j hj=>by
  have hlt:off*sz+j<cs.length:=by omega
  obtain⟨v,q1,q2,q3⟩:=g7 (off*sz+j) _ (List.getElem?_eq_getElem hlt);exact⟨_,v,List.getElem?_eq_getElem hlt,q1,q2,q3⟩
 let us:List Value:=(List.range (len*sz)).map fun j=>ca[p.start+(off*sz+j)]?.getD undef
 have hul:us.length=len*sz:=by simp[us]
 have hus:∀j,j<len*sz->us[j]?=ca[p.start+(off*sz+j)]?:=fun j hj=>by
  obtain⟨a,v,_,q1,_,_⟩:=hcell j hj;simp[us,hj,q1]
 refine⟨us,fun w' hw'=>?_,VRs.of_get (by simp[hul];omega) fun j x hx=>?_,fun u hu=>?_,hul⟩
 ·simp only[Builtin.firstCells]
  rw[<-hul];refine run_loadCells_list w' _ us fun j v hj=>?_;have hjl:j<len*sz:=by rw[<-hul];exact(List.getElem?_eq_some_iff.1 hj).1
  have hcv:cv≠0:=by
   intro e0;have:len=0:=by omega
   rw[this]at hjl;simp at hjl
  rw[ho hcv,y2l_,g3];simp only[World.cell?,hw',g1];rw[hus j hjl]at hj;rw[show p.start+off*sz+j=p.start+(off*sz+j) by omega];simpa using hj
 ·have hjl:j<len*sz:=by
   have:=(List.getElem?_eq_some_iff.1 hx).1;simp at this;omega
  obtain⟨a,v,q0,q1,q2,q3⟩:=hcell j hjl;refine⟨v,by rw[hus j hjl];exact q1,?_⟩;rw[List.getElem?_take,if_pos hjl,List.getElem?_drop]at hx;rw[q0]at hx;cases hx;exact q2
 ·obtain⟨j,hj,rfl⟩:=List.getElem_of_mem hu
  obtain⟨a,v,q0,q1,q2,q3⟩:=hcell j (by omega);have h1:=hus j (by omega);rw[List.getElem?_eq_getElem hj,q1]at h1;cases h1;exact q3
theorem yga_{sz:Nat}{x:AVal}{cx:Value}{K:List AVal->Nat->Option Rt}(hR:R B w0 m σ w)(hx:VR m x cx)(h:srcK σ sz x K=some r) :
  ∃xs n us,K xs n=some r/\SrcOk P m w sz cx xs n us:=by
 unfold srcK at h
 split at h
 ·simp only[VR]at hx;subst hx
  exact⟨[],0,[],h,fun w'=>by simp[Builtin.lenOf],fun w' _=>by simp[Builtin.firstCells],by simp[VRs],by simp,by simp⟩
 ·rename_i l off len c
  split at h
  ·rename_i md sz' cs hg
   split at h
   ·rename_i hc
    obtain⟨c1,c2⟩:=hc;subst c1;simp only[VR]at hx;obtain⟨p,capv,o,p1,p2,p3,p4,p5,rfl⟩:=hx;obtain⟨us,h1,h2,h3,h4⟩:=y23_ (P:=P) hR hg p1 p4 p5 c2;exact⟨_,len,us,h,fun w'=>by simp[Builtin.lenOf],h1,h2,h3,h4⟩
   ·cases h
  ·cases h
 ·cases h
theorem y4y_{K:AVal->Heap->Option Rt}{t u el:TypeId}{ei:TI}{i:TypeInfo}{d du:TypeDesc}{z:Value}(hu:P.underlying t=some (.slice el))(huu:P.underlying u=some du)(hni:(∃e',du=.slice e')\/du=.string)
  (ht:TiOk P el ei i d z) (hR:R B w0 m σ w) {base:Option Addr} {sLen sCap n:Nat} {x:Value} {xs os:List AVal} {us vs:List Value} (ty:TypeId) (hx:SrcOk P m w ei.size x xs n us)
  (ho:∀w':World,w'.heap=w.heap->(Builtin.firstCells ei.size sLen (.slice base sLen sCap)).run P w'=.ok vs.toArray w') (hov:VRs m os vs) (ho1:∀u∈vs,u.oneCell'=true) (hol:vs.length=sLen*ei.size)
  (hneed:sCap<sLen+n) (hb:(sLen+n)*ei.bytes<=70368744177664) (hn:sLen+n<=70368744177664)
  (hk:K (.sl σ.next 0 (sLen+n) none) (σ.new (.cells .rw ei.size (os++xs)))=some r) :
  Yield P B w0 m K r (Builtin.append_ #[t,u] ty #[.slice base sLen sCap,x]) w:=by
 obtain⟨N,hN⟩:∃N,(Question.appendCap (sLen+n) sCap el).cut (w.tape w.drawn (.appendCap (sLen+n) sCap el))=N:=⟨_,rfl⟩;have hNle:sLen+n<=N:=by rw[<-hN];simp only[Question.cut];omega
 have hcapb:Builtin.nextslicecap (sLen+n) sCap*i.bytes<=281474976710656:=by
  have h1:=y9d_ (sLen+n) sCap hneed;have h2:Builtin.nextslicecap (sLen+n) sCap*i.bytes<=(2*(sLen+n))*i.bytes:=Nat.mul_le_mul_right _ h1;rw[ht.bytes]at h2⊢;have h3:2*(sLen+n)*ei.bytes=2*((sLen+n)*ei.bytes):=Nat.mul_assoc _ _ _;omega
 have hrun:(Builtin.append_ #[t,u] ty #[.slice base sLen sCap,x]).run P w =
   .ok (.slice (some ⟨w.heap.size,0,none⟩) (sLen+n) N) { w with heap:=w.heap.push (.cells (vs.toArray++us.toArray++Builtin.zeroCells z.cells (N-(sLen+n))) el (0,0)),drawn:=w.drawn+1 }:=by
  have c1:¬(sLen+n<=sCap):=by omega
  have c2:¬(((sLen+n:Nat):Int)>IntKind.i64.max/\(False\/i.bytes=0)):=by
   intro hh;have:IntKind.i64.max=9223372036854775807:=by decide
   omega
  have c3:¬(Builtin.nextslicecap (sLen+n) sCap*i.bytes>2 ^ 48):=by omega
  have hw1:({ w with drawn:=w.drawn+1 }:World).heap=w.heap:=rfl;have hforced:(Question.appendCap (sLen+n) sCap el).forced=false:=rfl;have e1:=ho { w with drawn:=w.drawn+1 } rfl;have e2:=hx.cells { w with drawn:=w.drawn+1 } rfl;have hun:=TiOk.run_size ht;have c2':¬(((sLen+n:Nat):Int)>IntKind.i64.max/\i.bytes=0):=by simpa using c2
  rcases hni with ⟨e',rfl⟩|rfl
  all_goals
   simp only[Builtin.append_,List.getElem?_toArray,List.getElem?_cons_zero,List.getElem?_cons_succ,Sem.run_bind,underlying,run_program,Result.andThen_ok,hu,huu,Sem.run_pure,hun,Bool.false_eq_true,if_false,hx.len,
    c1,ht.run_info,false_or]
   simp only[c2',if_false,Sem.run_ite,Sem.run_bind,Sem.run_pure,Result.andThen_ok,ht.run_info,c3,run_choose,hforced,hN,run_askRoom,Bool.false_eq_true,Bool.not_false,if_true,e1,e2,ht.run_zero,newRow,run_newObj]
 refine⟨_,_,hrun,?_⟩;have hxl:=hx.ulen;have hxv:=hx.vr.length;have hovl:=hov.length;obtain⟨q1,q2⟩:=hR.row (sz:=ei.size) (cap:=N) (cs:=os++xs) (c:=vs.toArray++us.toArray++Builtin.zeroCells z.cells (N-(sLen+n))) el (w.drawn+1)
  (by rw[List.length_append,<-hovl,<-hxv,hol,hxl,<-Nat.add_mul];exact Nat.mul_le_mul_right _ hNle)
  (by simp only[Array.size_append,List.size_toArray,y52_,ht.z_len,hol,hxl];rw[<-Nat.add_mul,<-Nat.add_mul];exact Nat.le_of_eq (by congr 1;omega))
  (fun j a hj=>by
   have hv:=VRs.append hov hx.vr;obtain⟨v,v1,v2⟩:=hv.get j a hj;refine⟨v,?_,v2,?_⟩
   ·have hjl:=(List.getElem?_eq_some_iff.1 v1).1
    rw[Array.getElem?_append_left (by simpa using hjl)];rw[<-Array.getElem?_toList];simpa using v1
   ·have hm:=List.mem_of_getElem? v1
    rcases List.mem_append.1 hm with hm|hm
    ·exact ho1 v hm
    ·exact hx.one v hm)
 refine⟨_,_,_,hk,q1,q2,?_⟩;simp only[VR];exact⟨_,N,_,y1c_ _ _,fun _=>by simp,fun k hk=>(by cases hk),hNle,fun _=>by simp,rfl⟩
theorem y76_{t u el:TypeId}{ei:TI}{i:TypeInfo}{d du:TypeDesc}{z:Value}(hu:P.underlying t=some (.slice el))(huu:P.underlying u=some du)(hni:(∃e',du=.slice e')\/du=.string)
  (ht:TiOk P el ei i d z) {b o sLen sCap n:Nat} {x:Value} {us:List Value} {c:Array Value} {e:TypeId} (ty:TypeId) {xs:List AVal} (hx:SrcOk P m w ei.size x xs n us)
  (hneed:sLen+n<=sCap) (hc:w.heap[b]?=some (.cells c e (0,0))) (hs:o+(sLen+n)*ei.size<=c.size) :
  ∃w' c',(Builtin.append_ #[t,u] ty #[.slice (some ⟨b,o,none⟩) sLen sCap,x]).run P w=.ok (.slice (some ⟨b,o,none⟩) (sLen+n) sCap) w'/\Upd b w w'/\w'.heap.size=w.heap.size/\w'.heap[b]?=some (.cells c' e (0,0))/\c'.size=c.size /\
   ∀j,c'[j]?=if o+sLen*ei.size<=j/\j<o+(sLen+n)*ei.size then us[j-(o+sLen*ei.size)]? else c[j]?:=by
 have hmul:(sLen+n)*ei.size=sLen*ei.size+n*ei.size:=Nat.add_mul _ _ _;obtain⟨w',c',h1,h2,h3,h4,h5,h6⟩:=y39_ P us w b (o+sLen*ei.size) 0 c e hc hx.one (by rw[hx.ulen];omega);refine⟨w',c',?_,h2,h3,h4,h5,fun j=>?_⟩
 ·skip
  have hun:=TiOk.run_size ht;have e2:=hx.cells w rfl;rcases hni with ⟨e',rfl⟩|rfl
  all_goals
   simp only[Builtin.append_,List.getElem?_toArray,List.getElem?_cons_zero,List.getElem?_cons_succ,Sem.run_bind,underlying,run_program,Result.andThen_ok,hu,huu,Sem.run_pure,hun,Bool.false_eq_true,if_false,hx.len,
    hneed,if_true,e2,Bool.not_false,y2l_,h1]
 ·rw[h6 j,hx.ulen]
  by_cases hj:o+sLen*ei.size<=j/\j<o+(sLen+n)*ei.size
  ·rw[if_pos (by omega),if_pos hj];rfl
  ·rw[if_neg (by omega),if_neg hj]
theorem y55_{t u el:TypeId}{ei:TI}{i:TypeInfo}{d du:TypeDesc}{z:Value}(hu:P.underlying t=some (.slice el))(huu:P.underlying u=some du)(hni:(∃e',du=.slice e')\/du=.string)
  (ht:TiOk P el ei i d z) {base:Option Addr} {sLen sCap:Nat} {x:Value} {us:List Value} (ty:TypeId) {xs:List AVal} (hx:SrcOk P m w ei.size x xs 0 us) (hneed:sLen<=sCap) :
  (Builtin.append_ #[t,u] ty #[.slice base sLen sCap,x]).run P w=.ok (.slice base sLen sCap) w:=by
 have hun:=TiOk.run_size ht;have e2:=hx.cells w rfl;have hus:us=[]:=List.length_eq_zero_iff.1 (by rw[hx.ulen];simp);subst hus;rcases hni with ⟨e',rfl⟩|rfl
 all_goals
  cases base <;>
  simp only[Builtin.append_,List.getElem?_toArray,List.getElem?_cons_zero,List.getElem?_cons_succ,Sem.run_bind,underlying,run_program,Result.andThen_ok,hu,huu,Sem.run_pure,hun,Bool.false_eq_true,if_false,hx.len,
    Nat.add_zero,hneed,if_true,e2,Bool.not_false,storeCells,List.toList_toArray]
theorem y68_{K:AVal->Heap->Option Rt}{t u el:TypeId}{ei:TI}{i:TypeInfo}{d du:TypeDesc}{z:Value}(hu:P.underlying t=some (.slice el))(huu:P.underlying u=some du)(hni:(∃e',du=.slice e')\/du=.string)
  (ht:TiOk P el ei i d z) (hR:R B w0 m σ w) (hpm:w0.pm=false) {s:AVal} {cs x:Value} {xs:List AVal} {n:Nat} {us:List Value} (ty:TypeId) (hs:VR m s cs) (hx:SrcOk P m w ei.size x xs n us)
  (h:appC σ ei.size ei.bytes s xs n K=some r):Yield P B w0 m K r (Builtin.append_ #[t,u] ty #[cs,x]) w:=by
 unfold appC at h
 split at h
 ·simp only[VR]at hs;subst hs
  by_cases hn:n=0
  ·subst hn
   rw[if_pos rfl]at h;exact Yield.pure (v:=.nils) (y55_ hu huu hni ht ty hx (Nat.le_refl _)) hR (by simp[VR]) h
  ·rw[if_neg hn]at h
   split at h
   ·rename_i hc
    refine y4y_ (os:=[]) (vs:=[]) hu huu hni ht hR ty hx (fun w' _=>by simp[Builtin.firstCells]) (by simp[VRs]) (by simp) (by simp) (by omega) (by simpa using hc.1) (by simpa using hc.2) ?_;simpa[newK]using h
   ·cases h
 ·rename_i l off len c
  split at h
  ·rename_i md sz' ca hg
   split at h
   ·rename_i hc
    obtain⟨c1,c2,c3⟩:=hc;subst c1;have hs':=hs;simp only[VR]at hs;obtain⟨p,capv,o,p1,p2,p3,p4,p5,rfl⟩:=hs;obtain⟨p',hp',cw,e,fr,g1,g2,g3,g4,g5,g6,g7⟩:=hR.obj l _ hg;rw[p1]at hp';cases hp';have hm1:(off+len)*ei.size=off*ei.size+len*ei.size:=Nat.add_mul _ _ _;have hm2:(off+len+n)*ei.size=off*ei.size+(len+n)*ei.size:=by rw[Nat.add_assoc];exact Nat.add_mul _ _ _
    have hm3:(len+n)*ei.size=len*ei.size+n*ei.size:=Nat.add_mul _ _ _;have hxul:=hx.ulen;have hxvl:=hx.vr.length;by_cases hn:n=0
    ·subst hn
     rw[if_pos rfl]at h;exact Yield.pure (v:=.sl l off len c) (y55_ hu huu hni ht ty hx p4) hR hs' h
    ·rw[if_neg hn]at h
     split at h
     ·rename_i hbd
      have inplace:md=.rw->len+n<=capv->(off+len+n)*ei.size<=ca.length->K (.sl l off (len+n) c) (σ.set l (.cells .rw ei.size (ca.take ((off+len)*ei.size)++xs++ca.drop ((off+len+n)*ei.size))))=some r ->
        Yield P B w0 m K r (Builtin.append_ #[t,u] ty #[.slice (some o) len capv,x]) w:=fun hro hroom hfit hk=>by
       subst hro;have hfr:=g2 rfl;subst hfr;have ho:o=⟨p.blk,p.start+off*ei.size,none⟩:=by rw[p5 (by omega),g3]
       subst ho;obtain⟨w',c',k1,k2,k3,k4,k5,k6⟩:=y76_ (m:=m) (b:=p.blk) (o:=p.start+off*ei.size) hu huu hni ht ty hx hroom g1 (by omega);refine⟨_,w',k1,_,_,m,hk,Sub.refl m,?_,?_⟩
       ·have e0:(off+len+n)*ei.size=(off+len)*ei.size+xs.length:=by omega
        rw[e0];refine R.upd (b:=p.blk) (l:=l) (o:=.cells .rw ei.size (ca.take ((off+len)*ei.size)++xs++ca.drop ((off+len)*ei.size+xs.length))) (p:=p) hR k2 (hR.own hpm l _ p hg rfl p1) (Sub.refl m) (fun _ _=>rfl) p1 rfl (by rw[k3];exact(hR.dom l p p1).2)
         (fun k q hq=>.inl hq) (by simp[Heap.set]) (by simpa[Heap.set] using(hR.dom l p p1).1) (fun k y hk2 hy=>?_) (by simp[Heap.set]) ?_
        ·simp only[Heap.set,if_neg hk2]at hy
         exact⟨hy,fun q hq=>Ne.symm (hR.excl l k _ y p q (Ne.symm hk2) hg hy p1 hq rfl)⟩
        ·refine⟨c',e,(0,0),k4,fun _=>rfl,g3,g4,by rw[y9g_ _ _ _ (by omega)];exact g5,by rw[k5];exact g6,fun j a hj=>?_⟩
         rw[y3t_ _ _ _ (by omega)]at hj;rw[k6];by_cases i1:j<(off+len)*ei.size
         ·rw[if_pos i1]at hj;rw[if_neg (by omega)];exact g7 j a hj
         ·rw[if_neg i1]at hj
          by_cases i2:j<(off+len)*ei.size+xs.length
          ·rw[if_pos i2]at hj;rw[if_pos (by omega)]
           obtain⟨v,q1,q2⟩:=hx.vr.get _ _ hj;rw[show p.start+j-(p.start+off*ei.size+len*ei.size)=j-(off+len)*ei.size by omega];exact⟨v,q1,q2,hx.one v (List.mem_of_getElem? q1)⟩
          ·rw[if_neg i2]at hj;rw[if_neg (by omega)];exact g7 j a hj
       ·simp only[VR]
        exact⟨p,capv,_,p1,p2,p3,hroom,fun _=>by rw[g3],rfl⟩
      split at h
      ·rename_i k
       obtain⟨x1,x2⟩:=p3 k rfl
       split at h
       ·rename_i hk
        split at h
        ·rename_i hf
         exact inplace hf.1 (by omega) hf.2 h
        ·cases h
       ·rename_i hk
        obtain⟨vs,f1,f2,f3,f4⟩:=y23_ (P:=P) hR hg p1 p4 p5 c3;exact y4y_ hu huu hni ht hR ty hx f1 f2 f3 f4 (by omega) hbd.1 hbd.2 (by simpa[newK]using h)
      ·have hcv:=p2 rfl
       split at h
       ·rename_i hmd
        subst hmd;have hfr:=g2 rfl;subst hfr
        split at h
        ·rename_i hfit
         refine inplace rfl ?_ hfit h;have h1:(off+len+n)*ei.size<=p.cap*ei.size:=Nat.le_trans hfit g5;have h2:off+len+n<=p.cap:=Nat.le_of_mul_le_mul_right h1 c2;omega
        ·rename_i hfit
         by_cases hroom:len+n<=capv
         ·
          have ho:o=⟨p.blk,p.start+off*ei.size,none⟩:=by rw[p5 (by omega),g3]
          subst ho;have hcapm:(off+(len+n))*ei.size<=p.cap*ei.size:=Nat.mul_le_mul_right _ (by omega);have hm4:(off+(len+n))*ei.size=off*ei.size+(len+n)*ei.size:=Nat.add_mul _ _ _;have hm5:p.cap*ei.size=off*ei.size+(p.cap-off)*ei.size:=by rw[<-Nat.add_mul];congr 1;omega
          obtain⟨w',c',k1,k2,k3,k4,k5,k6⟩:=y76_ (m:=m) (b:=p.blk) (o:=p.start+off*ei.size) hu huu hni ht ty hx hroom g1 (by omega);have hcl:((ca.drop (off*ei.size)).take (len*ei.size)).length=len*ei.size:=by simp;omega
          refine⟨_,w',k1,_,_,mset m σ.next ⟨p.blk,p.start+off*ei.size,p.cap-off,ei.size⟩,h,Sub.mset hR.fresh _,?_,?_⟩
          ·refine R.upd (b:=p.blk) (l:=σ.next) (o:=.cells .rw ei.size ((ca.drop (off*ei.size)).take (len*ei.size)++xs)) (p:=⟨p.blk,p.start+off*ei.size,p.cap-off,ei.size⟩) (hR.kill l) k2
            (hR.own hpm l _ p hg rfl p1) (Sub.mset hR.fresh _) (fun k hk=>ybt_ _ _ k (Nat.lt_of_lt_of_le hk hR.oldn)) (y1c_ _ _) rfl (by rw[k3];exact(hR.dom l p p1).2)
            (fun k q hq=>?_) (by simp[Heap.kill,Heap.new]) (by simp[Heap.kill,Heap.new]) (fun k y hk2 hy=>?_) (by simp[Heap.kill,Heap.new]) ?_
           ·unfold mset at hq
            by_cases e1:k=σ.next
            ·rw[if_pos e1]at hq;cases hq;exact .inr ⟨e1,rfl⟩
            ·rw[if_neg e1]at hq;exact .inl hq
           ·have hy':(σ.kill l).get k=some y:=by simpa[Heap.new,Heap.kill,hk2]using hy
            refine⟨hy',fun q hq=>?_⟩;have hkl:k≠l:=by intro e1;subst e1;simp[Heap.kill]at hy'
            have hy2:σ.get k=some y:=by simpa[Heap.kill,hkl]using hy'
            exact Ne.symm (hR.excl l k _ y p q (Ne.symm hkl) hg hy2 p1 hq rfl)
           ·refine⟨c',e,(0,0),k4,fun _=>rfl,rfl,trivial,?_,?_,fun j a hj=>?_⟩
            ·rw[List.length_append,hcl,<-hxvl,hxul];show _<=(p.cap-off)*ei.size;omega
            ·show p.start+off*ei.size+(p.cap-off)*ei.size<=_;rw[k5];omega
            ·show∃v,c'[p.start+off*ei.size+j]?=some v/\_
             rw[k6];by_cases i1:j<len*ei.size
             ·rw[List.getElem?_append_left (by omega),List.getElem?_take,if_pos i1,List.getElem?_drop]at hj
              rw[if_neg (by omega)];obtain⟨v,q1,q2,q3⟩:=g7 _ a hj;exact⟨v,by rw[<-q1];congr 1;omega,VR.mono (Sub.mset hR.fresh _) _ _ q2,q3⟩
             ·rw[List.getElem?_append_right (by omega),hcl]at hj
              obtain⟨v,q1,q2⟩:=hx.vr.get _ _ hj;have hjx:=(List.getElem?_eq_some_iff.1 hj).1;rw[if_pos (by omega)];rw[show p.start+off*ei.size+j-(p.start+off*ei.size+len*ei.size)=j-len*ei.size by omega];exact⟨v,q1,VR.mono (Sub.mset hR.fresh _) _ _ q2,hx.one v (List.mem_of_getElem? q1)⟩
          ·simp only[VR]
           exact⟨_,capv,_,y1c_ _ _,fun _=>(by show 0+capv=p.cap-off;omega),fun k hk=>(by cases hk),hroom,fun _=>(by show(⟨p.blk,p.start+off*ei.size,none⟩:Addr)=⟨p.blk,p.start+off*ei.size+0*ei.size,none⟩;rw[Nat.zero_mul,Nat.add_zero]),rfl⟩
         ·obtain⟨vs,f1,f2,f3,f4⟩:=y23_ (P:=P) hR hg p1 p4 p5 c3
          exact y4y_ (σ:=σ.kill l) hu huu hni ht (hR.kill l) ty hx f1 f2 f3 f4 (by omega) hbd.1 hbd.2 (by simpa[newK]using h)
       ·cases h
     ·cases h
   ·cases h
  ·cases h
 ·cases h
theorem yfq_{x:AVal}{cx:Value}{K:Int->Option Rt}(hx:VR m x cx)(h:lenV x K=some r):∃n:Nat,K n=some r/\∀w':World,(Builtin.lenOf cx).run P w'=.ok n w':=by
 unfold lenV at h
 split at h
 ·simp only[VR]at hx
  obtain⟨p,cv,o,_,_,_,_,_,rfl⟩:=hx;exact⟨_,h,fun w'=>by simp[Builtin.lenOf]⟩
 ·simp only[VR]at hx
  subst hx;exact⟨0,h,fun w'=>by simp[Builtin.lenOf]⟩
 ·cases h
theorem yea_{K:AVal->Heap->Option Rt}{t u el:TypeId}{ei:TI}{i:TypeInfo}{d:TypeDesc}{z:Value}(hu:P.underlying t=some (.slice el))(ht:TiOk P el ei i d z)
  (hR:R B w0 m σ w) (hpm:w0.pm=false) {ty:TypeId} {x y:AVal} {cx cy:Value} (hx:VR m x cx) (hy:VR m y cy) (h:copyK σ ei.size x y (fun n σ=>K (.int .i64 n) σ)=some r) :
  Yield P B w0 m K r (Builtin.copy_ #[t,u] ty #[cx,cy]) w:=by
 unfold copyK at h
 split at h
 ·obtain⟨n,h,hl⟩:=yfq_ (P:=P) hy h
  simp only[VR]at hx;subst hx;have hf:∃us,(Builtin.firstCells ei.size 0 cy).run P w=.ok us w:=by
   cases y with
   |nils=>simp only[VR]at hy;subst hy;exact⟨_,by simp[Builtin.firstCells];rfl⟩
   |sl l off len c=>
    simp only[VR]at hy;obtain⟨p,cv,o,_,_,_,_,_,rfl⟩:=hy;refine⟨([]:List Value).toArray,?_⟩;have:=run_loadCells_list (P:=P) w o [] fun j v hj=>by simp at hj
    simpa[Builtin.firstCells]using this
   |_=>simp[lenV]at *
  obtain⟨us,hf⟩:=hf;refine⟨goInt 0,w,?_,.int .i64 0,σ,m,h,Sub.refl m,hR,by simp[VR,goInt]⟩;simp[Builtin.copy_,underlying,hu,hl,ht.run_size,hf]
 ·rename_i l off len c
  simp only[VR]at hx;obtain⟨p,cv,o,p1,p2,p3,p4,p5,rfl⟩:=hx
  split at h
  ·simp only[VR]at hy;subst hy
   refine⟨goInt 0,w,?_,.int .i64 0,σ,m,h,Sub.refl m,hR,by simp[VR,goInt]⟩;simp[Builtin.copy_,underlying,hu,Builtin.lenOf,ht.run_size,Builtin.firstCells,storeCells]
  ·rename_i l2 off2 len2 c2
   simp only[VR]at hy;obtain⟨p',cv',o',p1',p2',p3',p4',p5',rfl⟩:=hy
   split at h
   ·rename_i md sz2 cs hg2
    split at h
    ·rename_i hc
     obtain⟨c1,c3⟩:=hc;subst c1;obtain⟨us,f1,f2,f3,f4⟩:=y23_ (P:=P) (len:=min len2 len) (cv:=cv') (o:=o') hR hg2 p1' (by omega) p5' c3;have f1:=f1 w rfl;have f1:(Builtin.firstCells ei.size (min len2 len) (.slice (some o') len2 cv')).run P w=.ok us.toArray w:=f1
     split at h
     ·rename_i h0
      rw[h0]at f1 f4;have:us=[]:=List.eq_nil_of_length_eq_zero (by rw[f4,Nat.zero_mul]);subst this;refine⟨goInt 0,w,?_,.int .i64 0,σ,m,h,Sub.refl m,hR,by simp[VR,goInt]⟩;have hm:Nat.min len2 len=0:=h0;simp[Builtin.copy_,underlying,hu,Builtin.lenOf,ht.run_size,hm,f1,storeCells]
     ·rename_i h0
      split at h
      ·rename_i md3 sz3 cs3 hg
       split at h
       ·rename_i hsz;subst hsz
        obtain⟨pp,hpp,ca,e3,fr,g1,g2,g3,g4,g5,g6,g7⟩:=hR.obj l _ hg;rw[p1]at hpp;cases hpp;simp only[stC,hg]at h;cases md3 with
        |ro=>cases h
        |rx=>cases h
        |rz=>cases h
        | rw=>
         dsimp only at h
         split at h
         ·rename_i hfit
          obtain⟨w',q1,q2⟩:=R.store P hR hpm hg p1 f2 f3 hfit;have ho:o=⟨p.blk,p.start+off*ei.size,none⟩:=by rw[p5 (by omega),g3]
          refine⟨goInt ((min len2 len:Nat):Int),w',?_,_,_,m,h,Sub.refl m,q2,by simp[VR,goInt]⟩;have hm:Nat.min len2 len=min len2 len:=rfl;simp[Builtin.copy_,underlying,hu,Builtin.lenOf,ht.run_size,hm,f1,ho,q1]
         ·cases h
       ·cases h
      ·cases h
    ·cases h
   ·cases h
  ·cases h
 ·cases h
end
end
section
open Go Go.RowKit
def GlobR(NG:Nat)(m:Nat->Option Pl):Prop:=∀g,g<NG->∃p,m g=some p/\p.blk=g/\p.start=0
def Spec.run:Spec->List AVal->Heap->Option (AVal×Heap)
 | .eff ks g,args,σ=>(g args σ).map fun r=>(retV ks r.1,r.2)
 | .pur ks g,args,σ=>(g args σ).map fun x=>(retV ks x,σ)
theorem y3w_{Rt:Type}(s:Spec)(args:List AVal)(σ:Heap)(K:AVal->Heap->Option Rt):yr_ (some s) args σ K=(s.run args σ).bind fun r=>K r.1 r.2:=by
 cases s with
 |eff ks g=>simp only[yr_,Spec.run];cases g args σ<;>rfl
 |pur ks g=>simp only[yr_,Spec.run];cases g args σ<;>rfl
structure SpecOk(P:Program)(NG:Nat)(f:FuncId)(s:Spec):Prop where
 enters:∃fn,P.funcs[f]?=some fn/\(fn.name == "runtime.NumGoroutine")=false/\fn.body.isNone=false
 calls:∀B w0 m σ w args (cargs:List Value) v σ',s.run args σ=some (v,σ')->R B w0 m σ w->(w0.pm=true->isPur (some s)=true)->GlobR NG m->VRs m args cargs ->
  Calls P f cargs.toArray w fun e w'=>∃m' cv,e=.returned cv/\Sub m m'/\R B w0 m' σ' w'/\VR m' v cv
 next:∀args σ v σ',s.run args σ=some (v,σ')->Grw σ σ'
 ext:∀ks g,s=.pur ks g->∀args σ τ x,Ext σ τ->g args σ=some x->g args τ=some x
section
variable{Rt:Type}{C:Cx}{B:Nat->Prop}{w0:Base}{m:Nat->Option Pl}{σ:Heap}{w:World}{r:Rt}{e:Env}{a:Act}{next:Act->World->Prop}{Q:Exit->Act->World->Prop}{o:Oper}
theorem yu_{cv:Value}{w':World}(h:(execOp a.eval o).run C.P w=.ok (.value cv) w')(hn:next (a.put o.dst cv) w'):o.wp C.P a w next Q:=by
 simp only[Oper.wp,h,Oper.upon];exact hn
theorem y7v_{K:AVal->Heap->Option Rt}{s:Sem Value}(hs:execOp a.eval o=(do pure (.value (<-s))))(h:Yield C.P B w0 m K r s w)
  (hn:∀cv w',y3n_ B w0 m K r cv w'->next (a.put o.dst cv) w'):o.wp C.P a w next Q:=by
 obtain⟨cv,w',h1,h2⟩:=h;exact yu_ (by rw[hs];simp[h1]) (hn _ _ h2)
theorem y2w_{v:AVal}{cv:Value}{K:Int->Option Rt}(hv:VR m v cv)(h:intK v K=some r):∃k n,cv=.int k n/\K n=some r:=by
 unfold intK at h
 split at h
 ·simp only[VR]at hv;exact⟨_,_,hv,h⟩
 ·cases h
theorem y5a_(hE:EnvR C m e a){x:Option Operand}{K:Option Int->Option Rt}(h:optK C e x K=some r):∃n,K n=some r/\optV m n (x.map a.eval):=by
 unfold optK at h
 split at h
 ·obtain⟨v,h1,h2⟩:=y5_ hE h
  obtain⟨k,n,h3,h4⟩:=y2w_ h2 h1;exact⟨some n,h4,k,by simp[h3]⟩
 ·exact⟨none,h,rfl⟩
theorem yep_{K:AVal->Option Rt}{op:BinOp}{k:IntKind}{x y:Int}(hs:op≠.shl/\op≠.shr)(h:binI op k x y K=some r):∃v cv,(binOp op 0 (.int k x) (.int k y)).run C.P w=.ok cv w/\K v=some r/\VR m v cv /\
    (∀t,binOp op t (.int k x) (.int k y)=binOp op 0 (.int k x) (.int k y)):=by
  cases op<;>simp only[binI]at h<;>first
    |cases h
    |(exact absurd rfl hs.1)
    |(exact absurd rfl hs.2)
    | (split at h
       · cases h
       · rename_i hy
         exact⟨_,_,by simp[binOp,Op.intDiv,hy];rfl,h,by simp[VR],fun _=>rfl⟩)
    |exact⟨_,_,by simp[binOp,Op.intArith];rfl,h,by simp[VR],fun _=>rfl⟩
    |exact⟨_,_,by simp[binOp,Op.intBits];rfl,h,by simp[VR],fun _=>rfl⟩
    |exact⟨_,_,by simp[binOp,Op.intCmp];rfl,h,by simp[VR],fun _=>rfl⟩
theorem ya0_{K:AVal->Option Rt}{op:BinOp}{k k':IntKind}{x y:Int}(hs:op=.shl\/op=.shr)(h:shI op k x y K=some r)(t:TypeId):∃v cv,(binOp op t (.int k x) (.int k' y)).run C.P w=.ok cv w/\K v=some r/\VR m v cv:=by
 unfold shI at h
 split at h
 ·cases h
 ·rename_i hy
  rcases hs with rfl|rfl<;>exact⟨_,_,by simp[binOp,Op.shift,hy];rfl,h,by simp[VR]⟩
theorem yag_(t:TypeId)(x y:Value):Op.equal t x y=Op.equalIn (9999+1) t x y:=rfl
theorem y7p_(b o o' s:Nat):((⟨b,s+o,none⟩:Addr)==⟨b,s+o',none⟩)=(o==o'):=by
 rw[Bool.eq_iff_iff];simp
theorem yb5_{x y:AVal}{cx cy:Value}{K:Bool->Option Rt}(hx:VR m x cx)(hy:VR m y cy)(h:eqP x y K=some r){t el:TypeId}{ei:TI}{i:TypeInfo}{d:TypeDesc}{z:Value}(hu:C.P.underlying t=some (.pointer el))
  (ht:TiOk C.P el ei i d z) (hs:ei.size≠0) (n:Nat):∃b,(Op.equalIn (n+1) t cx cy).run C.P w=.ok b w/\K b=some r:=by
 unfold eqP at h
 split at h
 ·simp only[VR]at hx hy;subst hx;subst hy
  exact⟨true,by simp[Op.equalIn,underlying,hu],h⟩
 ·simp only[VR]at hx hy;subst hx;obtain⟨p,_,rfl⟩:=hy
  exact⟨false,by simp[Op.equalIn,underlying,hu],h⟩
 ·simp only[VR]at hx hy;subst hy;obtain⟨p,_,rfl⟩:=hx
  exact⟨false,by simp[Op.equalIn,underlying,hu],h⟩
 ·split at h
  ·rename_i l o l' o' e
   subst e;simp only[VR]at hx hy;obtain⟨p,h1,rfl⟩:=hx;obtain⟨q,h2,rfl⟩:=hy;rw[h1]at h2;cases h2;refine⟨_,?_,h⟩;simp only[Op.equalIn,Sem.run_bind,underlying,run_program,Result.andThen_ok,hu,Sem.run_pure,ht.run_size,Sem.run_ite,hs,ne_eq,not_false_eq_true,if_true,sameAddr,beq_self_eq_true,y7p_]
  ·cases h
 ·cases h
theorem yaz_{x y:AVal}{cx cy:Value}{K:Bool->Option Rt}(hx:VR m x cx)(hy:VR m y cy)(h:eqS x y K=some r){t el:TypeId}(hu:C.P.underlying t=some (.slice el))(n:Nat) :
  ∃b,(Op.equalIn (n+1) t cx cy).run C.P w=.ok b w/\K b=some r:=by
 unfold eqS at h
 split at h
 ·simp only[VR]at hx hy;subst hx;subst hy
  exact⟨true,by simp[Op.equalIn,underlying,hu],h⟩
 ·simp only[VR]at hx hy;subst hx;obtain⟨p,cv,o,_,_,_,_,_,rfl⟩:=hy
  exact⟨false,by simp[Op.equalIn,underlying,hu],h⟩
 ·simp only[VR]at hx hy;subst hy;obtain⟨p,cv,o,_,_,_,_,_,rfl⟩:=hx
  exact⟨false,by simp[Op.equalIn,underlying,hu],h⟩
 ·cases h
theorem yal_{x y:AVal}{cx cy:Value}{K:Bool->Option Rt}(hx:VR m x cx)(hy:VR m y cy)(h:eqM x y K=some r){t k el:TypeId}(hu:C.P.underlying t=some (.map k el))(n:Nat) :
  ∃b,(Op.equalIn (n+1) t cx cy).run C.P w=.ok b w/\K b=some r:=by
 unfold eqM at h
 split at h
 ·simp only[VR]at hx hy;subst hx;subst hy
  exact⟨true,by simp[Op.equalIn,underlying,hu],h⟩
 ·simp only[VR]at hx hy;subst hx;obtain⟨p,_,rfl⟩:=hy
  exact⟨false,by simp[Op.equalIn,underlying,hu],h⟩
 ·simp only[VR]at hx hy;subst hy;obtain⟨p,_,rfl⟩:=hx
  exact⟨false,by simp[Op.equalIn,underlying,hu],h⟩
 ·cases h
theorem y9x_{x y:AVal}{cx cy:Value}{K:Bool->Option Rt}(hx:VR m x cx)(hy:VR m y cy)(h:eqF x y K=some r){t:TypeId}{ps rs:Array TypeId}{v:Bool}(hu:C.P.underlying t=some (.func ps rs v))(n:Nat) :
  ∃b,(Op.equalIn (n+1) t cx cy).run C.P w=.ok b w/\K b=some r:=by
 unfold eqF at h
 split at h
 ·simp only[VR]at hx hy;subst hx;subst hy
  exact⟨true,by simp[Op.equalIn,underlying,hu],h⟩
 ·simp only[VR]at hx hy;subst hx;obtain⟨p,_,rfl,_⟩:=hy
  exact⟨false,by simp[Op.equalIn,underlying,hu],h⟩
 ·simp only[VR]at hx hy;subst hy;obtain⟨p,_,rfl,_⟩:=hx
  exact⟨false,by simp[Op.equalIn,underlying,hu],h⟩
 ·cases h
theorem y9n_(P:Program){a b:Addr}{c c':Array Value}{e e':TypeId}(hne:a.block≠b.block)(ha:w.heap[a.block]?=some (.cells c e (0,0)))(hb:w.heap[b.block]?=some (.cells c' e' (0,0))) :
  (sameAddr a b).run P w=.ok false w:=by
 have hf1:∀o:Nat,w.frozen? ⟨a.block,o,none⟩=false:=fun o=>by simp[World.frozen?,ha]
 have hf2:∀o:Nat,w.frozen? ⟨b.block,o,none⟩=false:=fun o=>by simp[World.frozen?,hb]
 have hf3:w.frozen? a=false:=by simp[World.frozen?,ha]
 have hf4:w.frozen? b=false:=by simp[World.frozen?,hb]
 have hs1:w.shape? a.block=some (e,c.size):=by simp[World.shape?,ha]
 have hs2:w.shape? b.block=some (e',c'.size):=by simp[World.shape?,hb]
 have hbe:(a.block==b.block)=false:=by simpa using hne
 have st1:(stringish a).run P w=.ok false w:=by simp[stringish,hf3,hs1,hf1]
 have st2:(stringish b).run P w=.ok false w:=by simp[stringish,hf4,hs2,hf2]
 simp[sameAddr,hbe,hf3,noView,viewAt,hs1,hs2,mayBeOne,st1,st2]
theorem y5y_{t:TypeId}{ms:Array (String×TypeId)}(hu:C.P.underlying t=some (.interface ms))(n:Nat){tx ty:TypeId}{vx vy:Value}{i:TypeInfo}(hi:tx=ty->C.P.info? tx=some i)(hc:tx=ty->i.comparable=true) :
  (Op.equalIn (n+1) t (.iface tx vx) (.iface ty vy)).run C.P w=if tx=ty then(Op.equalIn n tx vx vy).run C.P w else .ok false w:=by
 by_cases e:tx=ty
 ·have h1:=hi e;have h2:=hc e;subst e
  simp only[Op.equalIn,Sem.run_bind,underlying,run_program,Result.andThen_ok,hu,Sem.run_pure,ne_eq,not_true,if_false,typeInfo,h1,h2,Bool.not_true,Bool.false_eq_true,if_true]
 ·simp only[Op.equalIn,Sem.run_bind,underlying,run_program,Result.andThen_ok,hu,Sem.run_pure,ne_eq,e,not_false_eq_true,if_true,if_false]
theorem y7j_{t el:TypeId}{ei:TI}{i:TypeInfo}{d:TypeDesc}{z:Value}(hu:C.P.underlying t=some (.pointer el))(ht:TiOk C.P el ei i d z)(hs:ei.size≠0)(n:Nat)(a b:Addr) :
  (Op.equalIn (n+1) t (.pointer (some a)) (.pointer (some b))).run C.P w=(sameAddr a b).run C.P w:=by
 simp only[Op.equalIn,Sem.run_bind,underlying,run_program,Result.andThen_ok,hu,Sem.run_pure,ht.run_size,Sem.run_ite,hs,ne_eq,not_false_eq_true,if_true]
theorem ya6_{x y:AVal}{cx cy:Value}{K:Bool->Option Rt}{cn:Bool}(hR:R B w0 m σ w)(hx:VR m x cx)(hy:VR m y cy)(h:eqI (tiOf C.P) σ cn x y K=some r){t:TypeId}{ms:Array (String×TypeId)}(hu:C.P.underlying t=some (.interface ms))(n:Nat) :
  ∃b,(Op.equalIn (n+1+1) t cx cy).run C.P w=.ok b w/\K b=some r/\(cn=false->¬(cx=.nilIface/\cy=.nilIface)):=by
 unfold eqI at h
 split at h
 ·simp only[VR]at hx hy;subst hx;subst hy
  cases cn with
  |false=>cases h
  |true=>exact⟨true,by simp[Op.equalIn,underlying,hu],h,by simp⟩
 ·simp only[VR]at hx hy;subst hx;obtain⟨p,rfl,_⟩:=hy
  exact⟨false,by simp[Op.equalIn,underlying,hu],h,by simp⟩
 ·simp only[VR]at hx hy;subst hy;obtain⟨p,rfl,_⟩:=hx
  exact⟨false,by simp[Op.equalIn,underlying,hu],h,by simp⟩
 ·rename_i t1 l o t2 l' o'
  simp only[VR]at hx hy;obtain⟨_,rfl,p,p1,rfl⟩:=hx;obtain⟨_,rfl,q,q1,rfl⟩:=hy
  split at h
  ·rename_i e
   subst e
   split at h
   ·rename_i ti hti
    obtain⟨i,d,z,ht⟩:=y3o_ hti
    split at h
    ·rename_i el htk
     split at h
     ·rename_i ei hei
      obtain⟨i2,d2,z2,ht2⟩:=y3o_ hei;cases hz:(Nat.beq ei.size 0 || !ti.cmp) with
      |true=>rw[hz]at h;cases h
      | false=>
       rw[hz]at h;simp only[cond_false]at h;obtain⟨hz,hcm⟩:=Bool.or_eq_false_iff.1 hz;have hsz:ei.size≠0:=fun e=>by rw[e]at hz;cases hz
       have hd:d=.pointer el:=by
        rw[ht.tk]at htk;cases d<;>simp[tkOf]at htk
        subst htk;rfl
       subst hd;have hc:i.comparable=true:=by rw[ht.cmp];simpa using hcm
       have hI:=fun vx vy=>y5y_ (w:=w) (C:=C) hu (n+1) (tx:=t1) (ty:=t1) (vx:=vx) (vy:=vy) (i:=i) (fun _=>ht.info) (fun _=>hc)
       split at h
       ·rename_i e
        subst e;rw[p1]at q1;cases q1;refine⟨_,?_,h,by simp⟩;rw[hI,if_pos rfl,y7j_ ht.und ht2 hsz];simp only[sameAddr,beq_self_eq_true,if_true,y7p_,Sem.run_pure]
       ·rename_i hne
        split at h
        ·rename_i md sz cs md' sz' cs' hg hg'
         split at h
         ·rename_i hall
          obtain⟨p',hp',c,e,fr,g1,g2,g3⟩:=hR.obj l _ hg;rw[p1]at hp';cases hp';obtain⟨q',hq',c',e',fr',k1,k2,k3⟩:=hR.obj l' _ hg';rw[q1]at hq';cases hq';have hf1:md.fr0=true:=hall.elim (fun h=>Md.fr0_of_ex h.1) (fun h=>h.1);have hf2:md'.fr0=true:=hall.elim (fun h=>Md.fr0_of_ex h.2.1) (fun h=>h.2.1);have e1:=g2 hf1;subst e1;have e2:=k2 hf2;subst e2;refine⟨_,?_,h,by simp⟩;rw[hI,if_pos rfl,y7j_ ht.und ht2 hsz];by_cases hb:p.blk=q.blk
          ·have hst:strNe cs[o]? cs'[o']?=true:=by
            rcases hall with hall|hall
            ·exact absurd hb (hR.excl l l' _ _ p q hne hg hg' p1 q1 hall.1)
            ·exact hall.2.2
           have hd:p.start+o≠q.start+o':=by
            intro hd;unfold strNe at hst
            split at hst
            ·rename_i s s' hs hs'
             obtain⟨v,v1,v2,_⟩:=g3.2.2.2.2 _ _ hs;obtain⟨v',v1',v2',_⟩:=k3.2.2.2.2 _ _ hs';simp only[VR]at v2 v2';subst v2 v2';rw[hb]at g1;rw[g1]at k1;cases k1;rw[hd]at v1;rw[v1]at v1';simp only[Option.some.injEq,Value.string.injEq]at v1';simp[v1']at hst
            ·cases hst
           have:(Addr.mk p.blk (p.start+o) none==Addr.mk q.blk (q.start+o') none)=false:=by simp[hd]
           simp only[sameAddr,hb,beq_self_eq_true,if_true,y7p_,Sem.run_pure]
           congr 1
           simpa[hb]using hd
          ·exact y9n_ (w:=w) C.P (a:=⟨p.blk,p.start+o,none⟩) (b:=⟨q.blk,q.start+o',none⟩) hb g1 k1
         ·cases h
        ·cases h
     ·cases h
    ·cases h
   ·cases h
  ·rename_i hne
   refine⟨false,?_,h,by simp⟩;rw[y5y_ (i:=default) hu (n+1) (fun e=>(hne e).elim) (fun e=>(hne e).elim),if_neg hne]
 ·cases h
end
end
section
open Go Go.RowKit
section
variable{Rt:Type}{C:Cx}{B:Nat->Prop}{w0:Base}{m:Nat->Option Pl}{σ:Heap}{w:World}{r:Rt}{e:Env}{a:Act}
theorem y4k_{d:TypeDesc}{k:IntKind}(h:tkOf d=.int k):d=.int k:=by cases d<;>simp[tkOf]at h;subst h;rfl
theorem yi2_{d:TypeDesc}(h:tkOf d=.bool):d=.bool:=by cases d<;>simp[tkOf]at h;rfl
theorem y8o_{d:TypeDesc}(h:tkOf d=.str):d=.string:=by cases d<;>simp[tkOf]at h;rfl
theorem yjp_{d:TypeDesc}{e:TypeId}(h:tkOf d=.ptr e):d=.pointer e:=by cases d<;>simp[tkOf]at h;subst h;rfl
theorem y1a_{d:TypeDesc}{e:TypeId}(h:tkOf d=.slice e):d=.slice e:=by cases d<;>simp[tkOf]at h;subst h;rfl
theorem y6c_{d:TypeDesc}{k e:TypeId}(h:tkOf d=.map k e):d=.map k e:=by cases d<;>simp[tkOf]at h;obtain⟨rfl,rfl⟩:=h;rfl
theorem y6e_{d:TypeDesc}{n:Nat}{e:TypeId}(h:tkOf d=.arr n e):d=.array n e:=by cases d<;>simp[tkOf]at h;obtain⟨rfl,rfl⟩:=h;rfl
theorem y7y_{d:TypeDesc}{fs:List (Nat×TypeId)}(h:tkOf d=.strct fs):∃F,d=.struct F/\fs=F.toList.map fun f=>(f.offset,f.type):=by
 cases d<;>simp[tkOf]at h;exact⟨_,rfl,h.symm⟩
theorem yid_{d:TypeDesc}(h:tkOf d=.func):∃p q v,d=.func p q v:=by cases d<;>simp[tkOf]at h;exact⟨_,_,_,rfl⟩
theorem yhb_{d:TypeDesc}{b:Bool}(h:tkOf d=.iface b):∃ms,d=.interface ms:=by cases d<;>simp[tkOf]at h;exact⟨_,rfl⟩
theorem y2s_(op:BinOp)(t:TypeId)(x y:Operand){a b:Value}(h1:¬(a=.nilIface/\b=.nilIface)\/(y1h_ x||y1h_ y)=true)(h2:∀cs ds,¬(a=.agg cs/\b=.agg ds)) :
  (eqGuard op t x y a b).run C.P w=.ok () w:=by
 unfold eqGuard;cases op
 case eql|neq=>
  simp only[Bool.not_true,Bool.false_eq_true,if_false]
  split
  ·rcases h1 with h1|h1
   ·exact absurd ⟨rfl,rfl⟩ h1
   ·cases x<;>cases y<;>first|rfl|(simp[y1h_]at h1)
  ·exact absurd ⟨rfl,rfl⟩ (h2 _ _)
  ·rfl
 all_goals rfl
structure Plain(v:Value):Prop where
 i:∀k n,v≠.int k n
 f:∀k n,v≠.float k n
 c:∀k p q,v≠.complex k p q
 s:∀s,v≠.string s
 a:∀c,v≠.agg c
theorem ya8_{x y:AVal}{cx:Value}{K':Bool->Option Rt}(hx:VR m x cx)(hq:eqP x y K'=some r):Plain cx/\cx≠.nilIface:=by
 unfold eqP at hq
 split at hq<;>first|cases hq|(simp only[VR]at hx;obtain⟨p,_,rfl⟩:=hx;exact⟨⟨by simp,by simp,by simp,by simp,by simp⟩,by simp⟩)|(simp only[VR]at hx;subst hx;exact⟨⟨by simp,by simp,by simp,by simp,by simp⟩,by simp⟩)
theorem ya3_{x y:AVal}{cx:Value}{K':Bool->Option Rt}(hx:VR m x cx)(hq:eqS x y K'=some r):Plain cx/\cx≠.nilIface:=by
 unfold eqS at hq
 split at hq<;>first|cases hq|(simp only[VR]at hx;obtain⟨p,cv,o,_,_,_,_,_,rfl⟩:=hx;exact⟨⟨by simp,by simp,by simp,by simp,by simp⟩,by simp⟩)|(simp only[VR]at hx;subst hx;exact⟨⟨by simp,by simp,by simp,by simp,by simp⟩,by simp⟩)
theorem yav_{x y:AVal}{cx:Value}{K':Bool->Option Rt}(hx:VR m x cx)(hq:eqM x y K'=some r):Plain cx/\cx≠.nilIface:=by
 unfold eqM at hq
 split at hq<;>first|cases hq|(simp only[VR]at hx;obtain⟨p,_,rfl⟩:=hx;exact⟨⟨by simp,by simp,by simp,by simp,by simp⟩,by simp⟩)|(simp only[VR]at hx;subst hx;exact⟨⟨by simp,by simp,by simp,by simp,by simp⟩,by simp⟩)
theorem yan_{x y:AVal}{cx:Value}{K':Bool->Option Rt}(hx:VR m x cx)(hq:eqF x y K'=some r):Plain cx/\cx≠.nilIface:=by
 unfold eqF at hq
 split at hq<;>first|cases hq|(simp only[VR]at hx;obtain⟨p,_,rfl,_⟩:=hx;exact⟨⟨by simp,by simp,by simp,by simp,by simp⟩,by simp⟩)|(simp only[VR]at hx;subst hx;exact⟨⟨by simp,by simp,by simp,by simp,by simp⟩,by simp⟩)
theorem yaq_{x y:AVal}{cx:Value}{cn:Bool}{T:TypeId->Option TI}{K':Bool->Option Rt}(hx:VR m x cx)(hq:eqI T σ cn x y K'=some r):Plain cx:=by
 unfold eqI at hq
 split at hq<;>first|cases hq|(simp only[VR]at hx;obtain⟨p,rfl,_⟩:=hx;exact⟨by simp,by simp,by simp,by simp,by simp⟩)|(simp only[VR]at hx;subst hx;exact⟨by simp,by simp,by simp,by simp,by simp⟩)
theorem viaEq{t:TypeId}{X Y:Value}{b:Bool}(hp:Plain X)(hb:(Op.equalIn (9999+1) t X Y).run C.P w=.ok b w) :
  (binOp .eql t X Y).run C.P w=.ok (.bool b) w/\(binOp .neq t X Y).run C.P w=.ok (.bool !b) w:=by
 have h1:binOp .eql t X Y=(do pure (.bool (<-Op.equal t X Y))):=by
  cases X<;>first|rfl|exact absurd rfl (hp.i _ _)|exact absurd rfl (hp.f _ _)|exact absurd rfl (hp.c _ _ _)|exact absurd rfl (hp.s _)
 have h2:binOp .neq t X Y=(do pure (.bool (!(<-Op.equal t X Y)))):=by
  cases X<;>first|rfl|exact absurd rfl (hp.i _ _)|exact absurd rfl (hp.f _ _)|exact absurd rfl (hp.c _ _ _)|exact absurd rfl (hp.s _)
 rw[h1,h2,yag_];simp only[Sem.run_bind,hb,Result.andThen_ok,Sem.run_pure,and_self]
theorem eq_ok{K:AVal->Option Rt}{t:TypeId}{X Y:Value}{xo yo:Operand}{b:Bool}(hp:Plain X)(hb:(Op.equalIn (9999+1) t X Y).run C.P w=.ok b w)
  (hg:(y1h_ xo||y1h_ yo)=false->¬(X=.nilIface/\Y=.nilIface)) :
  (K (.bool b)=some r->∃v cv,(do eqGuard .eql t xo yo X Y;binOp .eql t X Y:Sem Value).run C.P w=.ok cv w/\K v=some r/\VR m v cv) /\
  (K (.bool !b)=some r->∃v cv,(do eqGuard .neq t xo yo X Y;binOp .neq t X Y:Sem Value).run C.P w=.ok cv w/\K v=some r/\VR m v cv):=by
 obtain⟨v1,v2⟩:=viaEq hp hb;have guard:∀o,(eqGuard o t xo yo X Y).run C.P w=.ok () w:=fun o=>
  y2s_ o t xo yo (by cases hc:(y1h_ xo||y1h_ yo) with
   |true=>exact .inr rfl
   |false=>exact .inl (hg hc)) (fun _ _ e=>hp.a _ e.1)
 exact⟨fun h=>⟨.bool b,.bool b,by simp only[Sem.run_bind,guard,Result.andThen_ok,v1],h,by simp[VR]⟩,fun h=>⟨.bool !b,.bool !b,by simp only[Sem.run_bind,guard,Result.andThen_ok,v2],h,by simp[VR]⟩⟩
theorem y64_{t:TypeId}(hu:C.P.underlying t=some .bool)(n:Nat)(a b:Bool):(Op.equalIn (n+1) t (.bool a) (.bool b)).run C.P w=.ok (a==b) w:=by
 simp[Op.equalIn,underlying,hu]
theorem ye9_{K:AVal->Option Rt}{op:BinOp}{t:TypeId}{ti:TI}{i:TypeInfo}{d:TypeDesc}{z:Value}(ht:TiOk C.P t ti i d z){x y:AVal}{cx cy:Value}{xo yo:Operand}(hR:R B w0 m σ w)(hx:VR m x cx)(hy:VR m y cy)
  (h:binK C op ti σ (y1h_ xo||y1h_ yo) x y K=some r):∃v cv,(do eqGuard op t xo yo cx cy;binOp op t cx cy:Sem Value).run C.P w=.ok cv w/\K v=some r/\VR m v cv:=by
 have htk:=ht.tk;unfold binK at h
 split at h
 ·
  split at h
  ·rename_i k a k' b
   simp only[VR]at hx hy;subst hx;subst hy;have hg:(eqGuard op t xo yo (.int k a) (.int k' b)).run C.P w=.ok () w:=y2s_ op t xo yo (.inl (by simp)) (by simp)
   split at h
   ·obtain⟨v,cv,h1,h2,h3⟩:=ya0_ (C:=C) (w:=w) (m:=m) (k':=k') (.inl rfl) h t
    exact⟨v,cv,by simp[hg,h1],h2,h3⟩
   ·obtain⟨v,cv,h1,h2,h3⟩:=ya0_ (C:=C) (w:=w) (m:=m) (k':=k') (.inr rfl) h t
    exact⟨v,cv,by simp[hg,h1],h2,h3⟩
   ·rename_i hns hnr
    split at h
    ·rename_i e
     subst e;obtain⟨v,cv,h1,h2,h3,h4⟩:=yep_ (C:=C) (w:=w) (m:=m) ⟨fun e=>hns e,fun e=>hnr e⟩ h;exact⟨v,cv,by simp[hg,h4 t,h1],h2,h3⟩
    ·cases h
  ·cases h
 ·
  split at h
  ·rename_i a b
   simp only[VR]at hx hy;subst hx;subst hy;exact⟨_,_,by simp[show(eqGuard .eql t xo yo (.string a) (.string b)).run C.P w=.ok () w from y2s_ .eql t xo yo (.inl (by simp)) (by simp),binOp,Op.stringOp];rfl,h,by simp[VR]⟩
  ·rename_i a b
   simp only[VR]at hx hy;subst hx;subst hy;exact⟨_,_,by simp[show(eqGuard .neq t xo yo (.string a) (.string b)).run C.P w=.ok () w from y2s_ .neq t xo yo (.inl (by simp)) (by simp),binOp,Op.stringOp];rfl,h,by simp[VR]⟩
  ·rename_i a b
   split at h
   ·rename_i hsz
    simp only[VR]at hx hy;subst hx;subst hy;have hmx:¬(((a.size+b.size:Nat):Int)>IntKind.i64.max):=by
     have:IntKind.i64.max=9223372036854775807:=by decide
     omega
    refine⟨_,.string (a++b),?_,h,by simp[VR]⟩;simp only[Sem.run_bind,show(eqGuard .add t xo yo (.string a) (.string b)).run C.P w=.ok () w from y2s_ .add t xo yo (.inl (by simp)) (by simp),Result.andThen_ok,binOp,Op.stringOp,if_neg hmx,Sem.run_pure]
   ·cases h
  ·cases h
 ·rename_i hk
  rw[hk]at htk;have hd:=yi2_ htk.symm;subst hd
  split at h
  ·simp only[VR]at hx hy;subst hx;subst hy
   exact(eq_ok ⟨by simp,by simp,by simp,by simp,by simp⟩ (y64_ ht.und 9999 _ _) (fun _=>by simp)).1 h
  ·simp only[VR]at hx hy;subst hx;subst hy
   exact(eq_ok ⟨by simp,by simp,by simp,by simp,by simp⟩ (y64_ ht.und 9999 _ _) (fun _=>by simp)).2 h
  ·cases h
 ·rename_i el hk
  rw[hk]at htk;have hd:=yjp_ htk.symm;subst hd;obtain⟨ei,i2,d2,z2,ht2,h⟩:=Cx.ti_spec h;cases hz:Nat.beq ei.size 0 with
  |true=>rw[hz]at h;cases h
  | false=>
   rw[hz]at h;simp only[cond_false]at h;have hsz:ei.size≠0:=fun e=>by rw[e]at hz;cases hz
   split at h
   ·obtain⟨s1,s2⟩:=ya8_ hx h
    obtain⟨b,h1,h2⟩:=yb5_ (w:=w) hx hy h ht.und ht2 hsz 9999;exact(eq_ok s1 h1 (fun _ e=>s2 e.1)).1 h2
   ·obtain⟨s1,s2⟩:=ya8_ hx h
    obtain⟨b,h1,h2⟩:=yb5_ (w:=w) hx hy h ht.und ht2 hsz 9999;exact(eq_ok s1 h1 (fun _ e=>s2 e.1)).2 h2
   ·cases h
 ·rename_i el hk
  rw[hk]at htk;have hd:=y1a_ htk.symm;subst hd
  split at h
  ·obtain⟨s1,s2⟩:=ya3_ hx h
   obtain⟨b,h1,h2⟩:=yaz_ (w:=w) hx hy h ht.und 9999;exact(eq_ok s1 h1 (fun _ e=>s2 e.1)).1 h2
  ·obtain⟨s1,s2⟩:=ya3_ hx h
   obtain⟨b,h1,h2⟩:=yaz_ (w:=w) hx hy h ht.und 9999;exact(eq_ok s1 h1 (fun _ e=>s2 e.1)).2 h2
  ·cases h
 ·rename_i kt el hk
  rw[hk]at htk;have hd:=y6c_ htk.symm;subst hd
  split at h
  ·obtain⟨s1,s2⟩:=yav_ hx h
   obtain⟨b,h1,h2⟩:=yal_ (w:=w) hx hy h ht.und 9999;exact(eq_ok s1 h1 (fun _ e=>s2 e.1)).1 h2
  ·obtain⟨s1,s2⟩:=yav_ hx h
   obtain⟨b,h1,h2⟩:=yal_ (w:=w) hx hy h ht.und 9999;exact(eq_ok s1 h1 (fun _ e=>s2 e.1)).2 h2
  ·cases h
 ·rename_i hk
  rw[hk]at htk;obtain⟨p1,p2,p3,hd⟩:=yid_ htk.symm;subst hd
  split at h
  ·obtain⟨s1,s2⟩:=yan_ hx h
   obtain⟨b,h1,h2⟩:=y9x_ (w:=w) hx hy h ht.und 9999;exact(eq_ok s1 h1 (fun _ e=>s2 e.1)).1 h2
  ·obtain⟨s1,s2⟩:=yan_ hx h
   obtain⟨b,h1,h2⟩:=y9x_ (w:=w) hx hy h ht.und 9999;exact(eq_ok s1 h1 (fun _ e=>s2 e.1)).2 h2
  ·cases h
 ·rename_i bm hk
  rw[hk]at htk;obtain⟨ms,hd⟩:=yhb_ htk.symm;subst hd
  split at h
  ·have s1:=yaq_ hx h
   obtain⟨b,h1,h2,h3⟩:=ya6_ (C:=C) hR hx hy h ht.und 9998;exact(eq_ok s1 h1 h3).1 h2
  ·have s1:=yaq_ hx h
   obtain⟨b,h1,h2,h3⟩:=ya6_ (C:=C) hR hx hy h ht.und 9998;exact(eq_ok s1 h1 h3).2 h2
  ·cases h
 ·cases h
end
end
section
open Go Go.RowKit
section
variable{Rt:Type}{C:Cx}{B:Nat->Prop}{w0:Base}{m:Nat->Option Pl}{σ:Heap}{w:World}{r:Rt}{e:Env}{a:Act}
theorem y96_{t:TypeId}{ti:TI}{i:TypeInfo}{d:TypeDesc}{z:Value}(ht:TiOk C.P t ti i d z){v:AVal}{cs:Array Value}{off:Nat}{K:AVal->Option Rt}(hv:VR m v (.agg cs))(h:partK ti v off K=some r) :
  ∃u cu,(part t cs off).run C.P w=.ok cu w/\K u=some r/\VR m u cu:=by
 unfold partK at h;cases hb:isAg ti.tk with
 | true=>
  rw[hb]at h;simp only[cond_true,agG]at h
  split at h
  ·rename_i as0
   split at h
   ·rename_i hn
    simp only[VR]at hv;obtain⟨vs,e1,h1,h2⟩:=hv;cases e1;have hl:=h1.length;refine⟨_,_,by simp only[part,Sem.run_bind,ht.run_isAgg,hb,Result.andThen_ok,if_true,ht.run_size,Sem.run_pure];rfl,h,?_⟩;simp only[VR];refine⟨(vs.drop off).take ti.size,by simp[List.extract,Nat.add_sub_cancel_left],VRs.of_get (by simp[hl]) fun j x hx=>?_,fun u hu=>h2 u (List.mem_of_mem_drop (List.mem_of_mem_take hu))⟩;rw[List.getElem?_take]at hx⊢
    split at hx
    ·rename_i hj
     rw[List.getElem?_drop]at hx;rw[if_pos hj,List.getElem?_drop];exact h1.get _ _ hx
    ·cases hx
   ·cases h
  ·cases h
 | false=>
  rw[hb]at h;simp only[cond_false,agS]at h
  split at h
  ·rename_i as0
   split at h
   ·rename_i x hx
    obtain⟨y,h1,h2⟩:=yg_ h;rw[h1]at h2;simp only[VR]at hv;obtain⟨vs,e1,h3,h4⟩:=hv;cases e1;obtain⟨u,h5,h6⟩:=h3.get _ _ hx;refine⟨x,u,?_,h2,h6⟩;simp only[part,Sem.run_bind,ht.run_isAgg,hb,Result.andThen_ok,Bool.false_eq_true,if_false,List.getElem?_toArray,h5,Sem.run_pure]
   ·cases h
  ·cases h
theorem yfk_(l:List Value):∀(k off:Nat) (cs:Array Value),off+k+l.length<=cs.size ->
  ((l.zipIdx k).foldl (fun(cs:Array Value) (x:Value×Nat)=>cs.setIfInBounds (off+x.2) x.1) cs).toList=cs.toList.take (off+k)++l++cs.toList.drop (off+k+l.length):=by
 induction l with
 |nil=>intro k off cs h;simp
 |cons x l ih=>
  intro k off cs h;simp only[List.length_cons]at h;simp only[List.zipIdx_cons,List.foldl_cons];rw[ih (k+1) off _ (by simp;omega)];simp only[Array.toList_setIfInBounds,List.length_cons];have hlt:off+k<cs.toList.length:=by simp;omega
  rw[show off+(k+1)=off+k+1 by omega,List.take_set,List.drop_set_of_lt (by omega)];rw[List.take_succ_eq_append_getElem hlt,List.set_append_right _ _ (by simp;omega)];have e0:off+k-(cs.toList.take (off+k)).length=0:=by simp;omega
  rw[e0];simp only[List.set_cons_zero,List.append_assoc,List.singleton_append,List.cons_append,List.nil_append];rw[show off+k+1+l.length=off+k+(l.length+1) by omega]
theorem y41_(hE:EnvR C m e a)(pl:Nat->Option (Nat×Nat))(place:Nat->Option (Nat×TypeId))(hpl:∀i off t,place i=some (off,t)->∃s,(∀ti i d z,TiOk C.P t ti i d z->s=ti.size)/\pl i=some (off,s)){K:List AVal->Option Rt} :
  ∀(ps:List (Nat×Operand)) (cs:List AVal) (us:Array Value),VRs m cs us.toList->(∀u∈us.toList,u.oneCell'=true)->fillK C place e cs ps K=some r ->
  ∃cs' us',Instr.fill pl us (ps.map fun x=>(x.1,a.eval x.2))=some us'/\K cs'=some r/\VRs m cs' us'.toList/\(∀u∈us'.toList,u.oneCell'=true)
 |[],cs,us,hv,h1,h=>⟨cs,us,rfl,h,hv,h1⟩
 | (i,x)::ps,cs,us,hv,h1,h=>by
  simp only[fillK]at h
  split at h
  ·rename_i off t hp
   obtain⟨ti,i2,d,z,ht,h⟩:=Cx.ti_spec h;obtain⟨v,h,hx⟩:=y5_ hE h;obtain⟨vs,h,c1,c2,c3⟩:=y4g_ hx h;obtain⟨s,hs,hpi⟩:=hpl i off t hp;have hs':=hs ti i2 d z ht;subst hs'
   split at h
   ·rename_i hfit
    have hsz:(a.eval x).cells.size=ti.size:=by have:=c1.length;simpa[c3]using this
    have hl:=hv.length;have hul:us.size=cs.length:=by simpa using hl
    have hfold:=yfk_ (a.eval x).cells.toList 0 off us (by simp[hsz];omega);have hvs:VRs m (cs.take off++vs++cs.drop (off+ti.size)) (us.toList.take off++(a.eval x).cells.toList++us.toList.drop (off+ti.size)):=by
     refine VRs.append (VRs.append ?_ c1) ?_
     ·refine VRs.of_get (by simp[hul]) fun j y hy=>?_
      rw[List.getElem?_take]at hy⊢
      split at hy
      ·rename_i hj;rw[if_pos hj];exact hv.get _ _ hy
      ·cases hy
     ·refine VRs.of_get (by simp[hul]) fun j y hy=>?_
      rw[List.getElem?_drop]at hy⊢;exact hv.get _ _ hy
    have hcells:(((a.eval x).cells.zipIdx).foldl (fun(cs:Array Value) (x:Value×Nat)=>cs.setIfInBounds (off+x.2) x.1) us).toList=us.toList.take off++(a.eval x).cells.toList++us.toList.drop (off+ti.size):=by
     rw[<-Array.foldl_toList,Array.toList_zipIdx,hfold];simp[hsz]
    obtain⟨cs',us',q1,q2,q3,q4⟩:=y41_ hE pl place hpl ps _ (((a.eval x).cells.zipIdx).foldl (fun(cs:Array Value) (x:Value×Nat)=>cs.setIfInBounds (off+x.2) x.1) us) (by rw[hcells];exact hvs)
     (fun u hu=>by
      rw[hcells]at hu;rcases List.mem_append.1 hu with hu|hu
      ·rcases List.mem_append.1 hu with hu|hu
       ·exact h1 u (List.mem_of_mem_take hu)
       ·exact c2 u hu
      ·exact h1 u (List.mem_of_mem_drop hu)) h
    refine⟨cs',us',?_,q2,q3,q4⟩;simp only[List.map_cons,Instr.fill,hpi,hsz,ne_eq,not_true,decide_false,Bool.false_or];rw[if_neg (by simp;omega)];exact q1
   ·cases h
  ·cases h
end
end
section
open Go Go.RowKit
section
variable{Rt:Type}{P:Program}{B:Nat->Prop}{w0:Base}{m:Nat->Option Pl}{σ:Heap}{w:World}{r:Rt}
theorem y61_{tk:TK}{v:AVal}{K:IntKind->Int->Option Rt}(h:keyK tk v K=some r):∃k n,tk=.int k/\v=.int k n/\K k n=some r:=by
 unfold keyK at h
 split at h
 ·split at h
  ·rename_i e;subst e;exact⟨_,_,rfl,rfl,h⟩
  ·cases h
 ·cases h
theorem y11_{k:IntKind}{n:Int}:∀{es:List (AVal×AVal)} {ents:List MapEntry} {i:Nat} {r:Option Nat},ents.length=es.length ->
  (∀(j:Nat) (a b:AVal),es[j]?=some (a,b)->∃e:MapEntry,ents[j]?=some e/\VR m a e.key/\VR m b e.val)->mfind k n es i=some r ->
  (r=none->Instr.findNow (.int k) (.int k n) ents i=some none)/\∀j,r=some j->i<=j/\∃e b,ents[j-i]?=some e/\es[j-i]?=some (.int k n,b)/\e.key=.int k n/\VR m b e.val/\Instr.findNow (.int k) (.int k n) ents i=some (some (j,e.val))
 |[],ents,i,r,hl,_,h=>by
  simp only[mfind,Option.some.injEq]at h;subst h;cases ents with
  |nil=>exact⟨fun _=>rfl,fun j hj=>by cases hj⟩
  |cons e ents=>simp at hl
 |(a,b)::es,[],i,r,hl,_,h=>by simp at hl
 | (a,b)::es,e::ents,i,r,hl,he,h=>by
  cases a with
  | int k' n'=>
   simp only[mfind]at h
   split at h
   ·rename_i hk;subst hk
    obtain⟨e',h1,h2,h3⟩:=he 0 _ _ rfl;simp only[List.getElem?_cons_zero,Option.some.injEq]at h1;subst h1;simp only[VR]at h2;have hsame:Instr.sameNow (.int k') (.int k' n) e.key=some (n==n'):=by rw[h2];simp[Instr.sameNow]
    split at h
    ·rename_i hn;subst hn
     simp only[Option.some.injEq]at h;subst h;refine⟨fun h=>(by cases h),fun j hj=>?_⟩;cases hj;refine⟨Nat.le_refl _,e,b,by simp,by simp,h2,h3,?_⟩;simp only[Instr.findNow,hsame,beq_self_eq_true]
    ·rename_i hn
     have hne:(n==n')=false:=by simpa using hn
     obtain⟨q1,q2⟩:=y11_ (i:=i+1) (ents:=ents) (by simpa using hl) (fun j a b hj=>by simpa using he (j+1) a b (by simpa using hj)) h;refine⟨fun hr=>by simp only[Instr.findNow,hsame,hne];exact q1 hr,fun j hj=>?_⟩;obtain⟨c1,e2,b2,c2,c3,c4,c5,c6⟩:=q2 j hj;have ej:j-i=(j-(i+1))+1:=by omega
     refine⟨by omega,e2,b2,by rw[ej,List.getElem?_cons_succ];exact c2,by rw[ej,List.getElem?_cons_succ];exact c3,c4,c5,?_⟩;simp only[Instr.findNow,hsame,hne];exact c6
   ·cases h
  |_=>simp[mfind]at h
theorem y8t_{k:IntKind}{n:Int}:∀{es:List (AVal×AVal)} {i:Nat},mfind k n es i=some none->∀x∈es,∃n',x.1=.int k n'/\n≠n'
 |[],_,_,x,hx=>by cases hx
 | (a,b)::es,i,h,x,hx=>by
  cases a with
  | int k' n'=>
   simp only[mfind]at h
   split at h
   ·rename_i hk;subst hk
    split at h
    ·cases h
    ·rename_i hn
     rcases List.mem_cons.1 hx with rfl|hx
     ·exact⟨n',rfl,hn⟩
     ·exact y8t_ h x hx
   ·cases h
  |_=>simp[mfind]at h
theorem yfl_{k:IntKind}{n:Int}{es:List (AVal×AVal)}{ents:Array MapEntry}(g2:ents.size=es.length)(g3:∀(j:Nat) (a b:AVal),es[j]?=some (a,b)->∃e:MapEntry,ents[j]?=some e/\VR m a e.key/\VR m b e.val)(h:mfind k n es 0=some none) :
  ∀x∈ents.toList,x.key≠.int k n:=by
 intro x hx hkey;obtain⟨i,hi,hxi⟩:=List.getElem_of_mem hx;have hi':i<es.length:=by rw[<-g2];simpa using hi
 obtain⟨e,h1,h2,_⟩:=g3 i es[i].1 es[i].2 (by simp[hi']);have hex:e=x:=by
  rw[<-Array.getElem?_toList,List.getElem?_eq_getElem hi,hxi]at h1;exact(Option.some.inj h1).symm
 obtain⟨n',h4,h5⟩:=y8t_ h es[i] (List.getElem_mem hi');rw[h4,hex,hkey]at h2;simp only[VR,Value.int.injEq,true_and]at h2;exact h5 h2
theorem y18_{t:TypeId}{k:IntKind}(ht:P.underlying t=some (.int k))(b:Bool)(n:Int)(w:World):(Instr.checkKey b 10000 t (.int k n)).run P w=.ok () w:=by
 have h:∀N,(Instr.checkKey b (N+1) t (.int k n)).run P w=.ok () w:=fun N=>by
  simp only[Instr.checkKey,underlying,Sem.run_bind,run_program,Result.andThen_ok,ht];rfl
 exact h 9999
theorem y2g_{t:TypeId}{k:IntKind}(ht:P.underlying t=some (.int k)){n:Int}{ents:List MapEntry}{x:Option (Nat×Value)}(h:Instr.findNow (.int k) (.int k n) ents 0=some x)(w:World) :
  (Instr.findKey t (.int k n) ents).run P w=.ok x w:=by
 simp[Instr.findKey,underlying,ht,h]
theorem ye0_{v:AVal}{cv:Value}{k:IntKind}{n:Int}{K:Option AVal->Option Rt}(hR:R B w0 m σ w)(hv:VR m v cv)(h:mgetK σ v k n K=some r) :
  ∃(es:Array MapEntry) (x:Option AVal) (y:Option (Nat×Value)),((cv=.map none/\es = #[])\/∃b cl,cv=.map (some b)/\w.heap[b]?=some (.map es cl))/\Instr.findNow (.int k) (.int k n) es.toList 0=some y/\K x=some r /\
   ((x=none/\y=none)\/∃a j u,x=some a/\y=some (j,u)/\VR m a u):=by
 unfold mgetK at h
 split at h
 ·simp only[VR]at hv
  exact⟨#[],none,none,.inl ⟨hv,rfl⟩,rfl,h,.inl ⟨rfl,rfl⟩⟩
 ·rename_i l
  simp only[VR]at hv;obtain⟨p,hp,rfl⟩:=hv
  split at h
  ·rename_i es hg
   obtain⟨p',hp',ents,cl,g1,g2,g3,g4⟩:=hR.obj l _ hg;rw[hp]at hp';cases hp'
   split at h
   ·rename_i j hf
    obtain⟨_,q⟩:=y11_ (m:=m) (ents:=ents.toList) (by simpa using g2) (fun j a b hj=>by simpa using g3 j a b hj) hf;obtain⟨_,e,b,c2,c3,c4,c5,c6⟩:=q j rfl;simp only[Nat.sub_zero]at c3;rw[c3]at h;exact⟨ents,some b,some (j,e.val),.inr ⟨_,cl,rfl,g1⟩,c6,h,.inr ⟨b,j,e.val,rfl,rfl,c5⟩⟩
   ·rename_i hf
    obtain⟨q,_⟩:=y11_ (m:=m) (ents:=ents.toList) (by simpa using g2) (fun j a b hj=>by simpa using g3 j a b hj) hf;exact⟨ents,none,none,.inr ⟨_,cl,rfl,g1⟩,q rfl,h,.inl ⟨rfl,rfl⟩⟩
   ·cases h
  ·cases h
 ·cases h
theorem R.mapSet{l:Nat}{es es':List (AVal×AVal)}{p:Pl}{ents ents':Array MapEntry}{cl cl':Nat}(hR:R B w0 m σ w)(hpm:w0.pm=false)(hg:σ.get l=some (.map es))(hm:m l=some p)(hb:w.heap[p.blk]?=some (.map ents cl))
  (hs:ents'.size=es'.length) (he:∀(j:Nat) (a b:AVal),es'[j]?=some (a,b)->∃e:MapEntry,ents'[j]?=some e/\VR m a e.key/\VR m b e.val) (hst:MapKept.Stamped ents' cl') :
  R B w0 m (σ.set l (.map es')) { w with heap:=w.heap.setIfInBounds p.blk (.map ents' cl') }:=by
 have hlt:=(hR.dom l p hm).2;refine R.upd (b:=p.blk) (l:=l) (o:=.map es') (p:=p) hR ⟨rfl,rfl,rfl,by simp,fun k hk _=>by simp[Ne.symm hk]⟩ (hR.own hpm l _ p hg rfl hm) (Sub.refl m) (fun _ _=>rfl) hm rfl (by simpa using hlt)
  (fun k q hq=>.inl hq) (by simp[Heap.set]) (by simpa[Heap.set] using(hR.dom l p hm).1) (fun k x hk hx=>?_) (by simp[Heap.set]) ⟨ents',cl',by simp[hlt],hs,he,hst⟩
 simp only[Heap.set,if_neg hk]at hx;exact⟨hx,fun q hq=>Ne.symm (hR.excl l k _ x p q (Ne.symm hk) hg hx hm hq rfl)⟩
theorem y26_{b:Nat}{es es':Array MapEntry}{cl cl':Nat}(hb:w.heap[b]?=some (.map es cl)):(setObj b (.map es' cl')).run P w=.ok () { w with heap:=w.heap.setIfInBounds b (.map es' cl') }:=by
 obtain⟨h1,h2⟩:=Array.getElem?_eq_some_iff.1 hb;simp[setObj,Sem.run,h1,h2,Array.setIfInBounds]
theorem yf0_{t kt et:TypeId}{v x:AVal}{cv cx:Value}{k:IntKind}{n:Int}{K:Heap->Option Rt}(hu:P.underlying t=some (.map kt et))(hk:P.underlying kt=some (.int k))(hR:R B w0 m σ w)(hpm:w0.pm=false)(hv:VR m v cv)(hx:VR m x cx)
  (h:mputK σ v k n x K=some r):∃σ' w',(Instr.mapUpdate t cv (.int k n) cx).run P w=.ok () w'/\R B w0 m σ' w'/\K σ'=some r:=by
 unfold mputK at h
 split at h
 ·rename_i l
  simp only[VR]at hv;obtain⟨p,hp,rfl⟩:=hv
  split at h
  ·rename_i es hg
   obtain⟨p',hp',ents,cl,g1,g2,g3,g4⟩:=hR.obj l _ hg;rw[hp]at hp';cases hp'
   split at h
   ·rename_i j hf
    obtain⟨_,q⟩:=y11_ (m:=m) (ents:=ents.toList) (by simpa using g2) (fun j a b hj=>by simpa using g3 j a b hj) hf;obtain⟨_,e,b,c2,c3,c4,c5,c6⟩:=q j rfl;simp only[Nat.sub_zero]at c2 c3;rw[Array.getElem?_toList]at c2;refine⟨_,_,?_,hR.mapSet hpm hg hp g1 (ents':=ents.modify j fun e=>{ e with key:=.int k n,val:=cx }) (cl':=cl) (by simp[g2]) (fun i a b hi=>?_) ?_,h⟩
    ·have hkey:(Option.map (fun x=>x.key) ents[j]?).getD (Value.int k n)=.int k n:=by rw[c2];simp[c4]
     simp[Instr.mapUpdate,underlying,hu,getObj,Sem.run,g1,y18_ hk,y2g_ hk c6,Instr.keyThatStays,Instr.sameBits,y26_ g1,hkey]
    ·rw[List.getElem?_set]at hi
     rw[Array.getElem?_modify];by_cases hij:j=i
     ·subst hij
      rw[if_pos rfl]at hi
      split at hi
      ·cases hi
       exact⟨_,by rw[if_pos rfl,c2];rfl,by simp only[VR],hx⟩
      ·cases hi
     ·rw[if_neg hij]at hi⊢
      exact g3 i a b hi
    ·exact MapKept.stamped_modify g4 _ _ (fun _ _=>rfl) (fun e' _ he'=>by rw[c2]at he';cases he';exact c4.symm)
   ·rename_i hf
    obtain⟨q,_⟩:=y11_ (m:=m) (ents:=ents.toList) (by simpa using g2) (fun j a b hj=>by simpa using g3 j a b hj) hf;refine⟨_,_,?_,hR.mapSet hpm hg hp g1 (ents':=ents.push { key:=.int k n,val:=cx,born:=cl }) (cl':=cl+1) (by simp[g2]) (fun i a b hi=>?_) ?_,h⟩
    ·simp[Instr.mapUpdate,underlying,hu,getObj,Sem.run,g1,y18_ hk,y2g_ hk (q rfl),y26_ g1]
    ·rw[Array.getElem?_push,g2]
     by_cases hie:i=es.length
     ·subst hie
      rw[List.getElem?_append_right (Nat.le_refl _),Nat.sub_self]at hi;simp only[List.getElem?_cons_zero,Option.some.injEq,Prod.mk.injEq]at hi;obtain⟨rfl,rfl⟩:=hi;exact⟨_,if_pos rfl,by simp only[VR],hx⟩
     ·rw[if_neg hie]
      have hlt:=(List.getElem?_eq_some_iff.1 hi).1;simp at hlt;rw[List.getElem?_append_left (by omega)]at hi;exact g3 i a b hi
    ·exact MapKept.stamped_push g4 (yfl_ g2 g3 hf)
   ·cases h
  ·cases h
 ·cases h
theorem ye5_{t kt et u ty:TypeId}{v:AVal}{cv:Value}{k:IntKind}{n:Int}{K:Heap->Option Rt}(hu:P.underlying t=some (.map kt et))(hk:P.underlying kt=some (.int k))(hR:R B w0 m σ w)(hpm:w0.pm=false)(hv:VR m v cv)
  (h:mdelK σ v k n K=some r):∃σ' w',(Builtin.delete_ #[t,u] ty #[cv,.int k n]).run P w=.ok (.tuple #[]) w'/\R B w0 m σ' w'/\K σ'=some r:=by
 unfold mdelK at h
 split at h
 ·simp only[VR]at hv;subst hv
  exact⟨σ,w,by simp[Builtin.delete_,underlying,hu,y18_ hk],hR,h⟩
 ·rename_i l
  simp only[VR]at hv;obtain⟨p,hp,rfl⟩:=hv
  split at h
  ·rename_i es hg
   obtain⟨p',hp',ents,cl,g1,g2,g3,g4⟩:=hR.obj l _ hg;rw[hp]at hp';cases hp'
   split at h
   ·rename_i j hf
    obtain⟨_,q⟩:=y11_ (m:=m) (ents:=ents.toList) (by simpa using g2) (fun j a b hj=>by simpa using g3 j a b hj) hf;obtain⟨_,e,b,c2,c3,c4,c5,c6⟩:=q j rfl;simp only[Nat.sub_zero]at c2 c3;rw[Array.getElem?_toList]at c2;have hj:=(Array.getElem?_eq_some_iff.1 c2).1;refine⟨_,_,?_,hR.mapSet hpm hg hp g1 (ents':=ents.eraseIdxIfInBounds j) (cl':=cl) ?_ (fun i a b hi=>?_) ?_,h⟩
    ·simp[Builtin.delete_,underlying,hu,getObj,Sem.run,g1,y18_ hk,y2g_ hk c6,y26_ g1]
    ·rw[<-Array.length_toList,Array.toList_eraseIdxIfInBounds,List.length_eraseIdx,List.length_eraseIdx,Array.length_toList,g2]
    ·rw[List.getElem?_eraseIdx]at hi
     have:(ents.eraseIdxIfInBounds j)[i]?=if i<j then ents[i]? else ents[i+1]?:=by
      rw[<-Array.getElem?_toList,Array.toList_eraseIdxIfInBounds,List.getElem?_eraseIdx];simp
     rw[this]
     split at hi
     ·rename_i h1;rw[if_pos h1];exact g3 i a b hi
     ·rename_i h1;rw[if_neg h1];exact g3 (i+1) a b hi
    ·exact MapKept.stamped_erase g4 j
   ·rename_i hf
    obtain⟨q,_⟩:=y11_ (m:=m) (ents:=ents.toList) (by simpa using g2) (fun j a b hj=>by simpa using g3 j a b hj) hf;refine⟨_,_,?_,hR.mapSet hpm hg hp g1 (ents':=ents) (cl':=cl) g2 g3 g4,h⟩;simp[Builtin.delete_,underlying,hu,getObj,Sem.run,g1,y18_ hk,y2g_ hk (q rfl),y26_ g1]
   ·cases h
  ·cases h
 ·cases h
theorem y8f_{tk:TK}{v:AVal}{K:Int->Int->Option Rt}(h:key2K (tiOf P) tk v K=some r):∃el ei a b,tk=.arr 2 el/\tiOf P el=some ei/\ei.tk=.int .i64/\ei.size=1/\v=.agg [.int .i64 a,.int .i64 b]/\K a b=some r:=by
 unfold key2K at h
 split at h
 ·rename_i n el
  split at h
  ·rename_i ei he
   split at h
   ·rename_i hk
    cases hb:(Nat.beq n 2&&Nat.beq ei.size 1) with
    |false=>rw[hb]at h;cases h
    |true=>
     rw[hb]at h;obtain⟨h1,h2⟩:=Bool.and_eq_true_iff.1 hb;have h1:=Nat.eq_of_beq_eq_true h1;have h2:=Nat.eq_of_beq_eq_true h2;subst h1;simp only[cond_true]at h
     split at h
     ·exact⟨el,ei,_,_,rfl,he,hk,h2,rfl,h⟩
     ·cases h
   ·cases h
  ·cases h
 ·cases h
section
variable{t el:TypeId}{ei:TI}{ifo:TypeInfo}{d:TypeDesc}{z:Value}
theorem y6n_(ht:TiOk P el ei ifo d z)(hk:ei.tk=.int .i64)(hs:ei.size=1)(a b:Int)(w:World):(part el #[.int .i64 a,.int .i64 b] 0).run P w=.ok (.int .i64 a) w/\(part el #[.int .i64 a,.int .i64 b] 1).run P w=.ok (.int .i64 b) w:=by
 have h1:=ht.run_isAgg (w:=w);rw[hk]at h1;have h1:(isAgg el).run P w=.ok false w:=h1;constructor<;>simp[part,h1]
theorem yer_(hu:P.underlying t=some (.array 2 el))(ht:TiOk P el ei ifo d z)(hk:ei.tk=.int .i64)(hs:ei.size=1)(a b c e:Int)(w:World) :
  (Op.equal t (.agg #[.int .i64 a,.int .i64 b]) (.agg #[.int .i64 c,.int .i64 e])).run P w=.ok (a==c&&b==e) w:=by
 have hd:=y4k_ (ht.tk▸hk);subst hd;have q1:=y6n_ ht hk hs a b w;have q2:=y6n_ ht hk hs c e w;have hsz:=ht.run_size (w:=w);rw[hs]at hsz;have heq:∀(n:Nat) (x y:Int),(Op.equalIn (n+1) el (.int .i64 x) (.int .i64 y)).run P w=.ok (x==y) w:=fun n x y=>by simp[Op.equalIn,underlying,ht.und]
 rw[yag_,Op.equalIn];simp only[Sem.run_bind,underlying,run_program,Result.andThen_ok,hu,Sem.run_pure];simp only[Std.Legacy.Range.forIn_eq_forIn_range',Std.Legacy.Range.size,Nat.sub_zero,Nat.add_sub_cancel,Nat.div_one,List.range'_succ,List.range'_zero,List.forIn_cons,List.forIn_nil];have h1:∀x y:Int,(Op.equalIn 9999 el (.int .i64 x) (.int .i64 y)).run P w=.ok (x==y) w:=heq 9998;simp[hsz,q1.1,q1.2,q2.1,q2.2,h1];by_cases e1:a=c<;>by_cases e2:b=e<;>simp[q1.2,q2.2,h1,e1,e2]
theorem y2h_(hu:P.underlying t=some (.array 2 el))(ht:TiOk P el ei ifo d z)(hk:ei.tk=.int .i64)(hs:ei.size=1)(em:Bool)(a b:Int)(w:World):(Instr.checkKey em 10000 t (.agg #[.int .i64 a,.int .i64 b])).run P w=.ok () w:=by
 have hd:=y4k_ (ht.tk▸hk);subst hd;have q1:=y6n_ ht hk hs a b w;have hsz:=ht.run_size (w:=w);rw[hs]at hsz;have hc:∀(n:Nat) (x:Int),(Instr.checkKey em (n+1) el (.int .i64 x)).run P w=.ok () w:=fun n x=>by simp only[Instr.checkKey,Sem.run_bind,underlying,run_program,Result.andThen_ok,ht.und];rfl
 show(Instr.checkKey em (9999+1) t _).run P w=_;rw[Instr.checkKey];simp only[Sem.run_bind,underlying,run_program,Result.andThen_ok,hu,Sem.run_pure];simp only[Std.Legacy.Range.forIn_eq_forIn_range',Std.Legacy.Range.size,Nat.sub_zero,Nat.add_sub_cancel,Nat.div_one,List.range'_succ,List.range'_zero,List.forIn_cons,List.forIn_nil];simp[hsz,q1.1,q1.2,hc 9998]
theorem y74_{a b:Int}{v:Value}(h:VR m (.agg [.int .i64 a,.int .i64 b]) v):v=.agg #[.int .i64 a,.int .i64 b]:=by
 simp only[VR,VRs]at h;obtain⟨vs,rfl,⟨_,_,rfl,rfl,_,_,rfl,rfl,rfl⟩,_⟩:=h;rfl
theorem ydp_{a b:Int}:VR m (.agg [.int .i64 a,.int .i64 b]) (.agg #[.int .i64 a,.int .i64 b]):=by
 simp only[VR,VRs];exact⟨[.int .i64 a,.int .i64 b],rfl,⟨_,_,rfl,rfl,_,_,rfl,rfl,rfl⟩,fun u hu=>by
  rcases List.mem_cons.1 hu with rfl|hu
  ·rfl
  ·rw[List.mem_singleton.1 hu];rfl⟩
theorem y1d_(hu:P.underlying t=some (.array 2 el))(ht:TiOk P el ei ifo d z)(hk:ei.tk=.int .i64)(hs:ei.size=1){a b:Int}(w:World):∀{es:List (AVal×AVal)} {ents:List MapEntry} {i:Nat} {r:Option Nat},ents.length=es.length ->
  (∀(j:Nat) (x y:AVal),es[j]?=some (x,y)->∃e:MapEntry,ents[j]?=some e/\VR m x e.key/\VR m y e.val)->y2d_ a b es i=some r ->
  (r=none->(Instr.findAsking t (.agg #[.int .i64 a,.int .i64 b]) ents i).run P w=.ok none w)/\∀j,r=some j->i<=j/\∃e y,ents[j-i]?=some e/\es[j-i]?=some (.agg [.int .i64 a,.int .i64 b],y)/\e.key=.agg #[.int .i64 a,.int .i64 b]/\VR m y e.val/\(Instr.findAsking t (.agg #[.int .i64 a,.int .i64 b]) ents i).run P w=.ok (some (j,e.val)) w
 |[],ents,i,r,hl,_,h=>by
  simp only[y2d_,Option.some.injEq]at h;subst h;cases ents with
  |nil=>exact⟨fun _=>by simp[Instr.findAsking],fun j hj=>by cases hj⟩
  |cons e ents=>simp at hl
 |(x,y)::es,[],i,r,hl,_,h=>by simp at hl
 | (x,y)::es,e::ents,i,r,hl,he,h=>by
  unfold y2d_ at h
  split at h
  ·rename_i heq;cases heq
  ·rename_i i _ _ x1 x2 _ _ heq
   cases heq;obtain⟨e',h1,h2,h3⟩:=he 0 _ _ rfl;simp only[List.getElem?_cons_zero,Option.some.injEq]at h1;subst h1;have h2:=y74_ h2;have hq:=yer_ hu ht hk hs a b x1 x2 w;rw[<-h2]at hq
   split at h
   ·rename_i hn
    obtain⟨rfl,rfl⟩:=hn;simp only[Option.some.injEq]at h;subst h;refine⟨fun h=>(by cases h),fun j hj=>?_⟩;cases hj;refine⟨Nat.le_refl _,e,y,by simp,by simp,h2,h3,?_⟩;simp[Instr.findAsking,hq]
   ·rename_i hn
    have hne:(a==x1&&b==x2)=false:=by
     cases hb:(a==x1&&b==x2) with
     |false=>rfl
     |true=>simp at hb;exact absurd hb hn
    rw[hne]at hq;obtain⟨q1,q2⟩:=y1d_ hu ht hk hs w (i:=i+1) (ents:=ents) (by simpa using hl) (fun j a b hj=>by simpa using he (j+1) a b (by simpa using hj)) h;refine⟨fun hr=>by simp[Instr.findAsking,hq,q1 hr],fun j hj=>?_⟩;obtain⟨c1,e2,b2,c2,c3,c4,c5,c6⟩:=q2 j hj;have ej:j-i=(j-(i+1))+1:=by omega
    refine⟨by omega,e2,b2,by rw[ej,List.getElem?_cons_succ];exact c2,by rw[ej,List.getElem?_cons_succ];exact c3,c4,c5,?_⟩;simp[Instr.findAsking,hq,c6]
  ·cases h
theorem y47_(hu:P.underlying t=some (.array 2 el)){k:Value}{es:List MapEntry}{x:Option (Nat×Value)}(h:(Instr.findAsking t k es 0).run P w=.ok x w):(Instr.findKey t k es).run P w=.ok x w:=by
 cases es with
 |nil=>
  simp[Instr.findAsking]at h;simp[Instr.findKey,underlying,hu,Instr.findNow,h]
 |cons e es=>simp[Instr.findKey,underlying,hu,Instr.findNow,Instr.sameNow,h]
theorem y7c_{a b:Int}:∀{es:List (AVal×AVal)} {i:Nat},y2d_ a b es i=some none->∀x∈es,∃c e,x.1=.agg [.int .i64 c,.int .i64 e]/\¬(a=c/\b=e)
 |[],_,_,x,hx=>by cases hx
 | (x,y)::es,i,h,u,hx=>by
  unfold y2d_ at h
  split at h
  ·rename_i heq;cases heq
  ·rename_i x1 x2 _ _ heq
   cases heq
   split at h
   ·cases h
   ·rename_i hn
    rcases List.mem_cons.1 hx with rfl|hx
    ·exact⟨_,_,rfl,hn⟩
    ·exact y7c_ h u hx
  ·cases h
theorem ycn_(hu:P.underlying t=some (.array 2 el))(ht:TiOk P el ei ifo d z)(hk:ei.tk=.int .i64)(hs:ei.size=1){v:AVal}{cv:Value}{a b:Int}{K:Option AVal->Option Rt}(hR:R B w0 m σ w)(hv:VR m v cv)(h:y2u_ σ v a b K=some r) :
  ∃(es:Array MapEntry) (x:Option AVal) (y:Option (Nat×Value)),((cv=.map none/\es = #[])\/∃b cl,cv=.map (some b)/\w.heap[b]?=some (.map es cl))/\(Instr.findKey t (.agg #[.int .i64 a,.int .i64 b]) es.toList).run P w=.ok y w/\K x=some r /\
   ((x=none/\y=none)\/∃a j u,x=some a/\y=some (j,u)/\VR m a u):=by
 unfold y2u_ at h
 split at h
 ·simp only[VR]at hv
  exact⟨#[],none,none,.inl ⟨hv,rfl⟩,y47_ hu (by simp[Instr.findAsking]),h,.inl ⟨rfl,rfl⟩⟩
 ·rename_i l
  simp only[VR]at hv;obtain⟨p,hp,rfl⟩:=hv
  split at h
  ·rename_i es hg
   obtain⟨p',hp',ents,cl,g1,g2,g3,g4⟩:=hR.obj l _ hg;rw[hp]at hp';cases hp'
   split at h
   ·rename_i j hf
    obtain⟨_,q⟩:=y1d_ (m:=m) hu ht hk hs w (ents:=ents.toList) (by simpa using g2) (fun j a b hj=>by simpa using g3 j a b hj) hf;obtain⟨_,e,b,c2,c3,c4,c5,c6⟩:=q j rfl;simp only[Nat.sub_zero]at c3;rw[c3]at h;exact⟨ents,some b,some (j,e.val),.inr ⟨_,cl,rfl,g1⟩,y47_ hu c6,h,.inr ⟨b,j,e.val,rfl,rfl,c5⟩⟩
   ·rename_i hf
    obtain⟨q,_⟩:=y1d_ (m:=m) hu ht hk hs w (ents:=ents.toList) (by simpa using g2) (fun j a b hj=>by simpa using g3 j a b hj) hf;exact⟨ents,none,none,.inr ⟨_,cl,rfl,g1⟩,y47_ hu (q rfl),h,.inl ⟨rfl,rfl⟩⟩
   ·cases h
  ·cases h
 ·cases h
theorem yci_{mt et:TypeId}(hmt:P.underlying mt=some (.map t et))(hu:P.underlying t=some (.array 2 el))(ht:TiOk P el ei ifo d z)(hk:ei.tk=.int .i64)(hs:ei.size=1){v x:AVal}{cv cx:Value}{a b:Int}{K:Heap->Option Rt}(hR:R B w0 m σ w)(hpm:w0.pm=false)(hv:VR m v cv)(hx:VR m x cx)
  (h:y1y_ σ v a b x K=some r):∃σ' w',(Instr.mapUpdate mt cv (.agg #[.int .i64 a,.int .i64 b]) cx).run P w=.ok () w'/\R B w0 m σ' w'/\K σ'=some r:=by
 unfold y1y_ at h
 split at h
 ·rename_i l
  simp only[VR]at hv;obtain⟨p,hp,rfl⟩:=hv
  split at h
  ·rename_i es hg
   obtain⟨p',hp',ents,cl,g1,g2,g3,g4⟩:=hR.obj l _ hg;rw[hp]at hp';cases hp'
   split at h
   ·rename_i j hf
    obtain⟨_,q⟩:=y1d_ (m:=m) hu ht hk hs w (ents:=ents.toList) (by simpa using g2) (fun j a b hj=>by simpa using g3 j a b hj) hf;obtain⟨_,e,y,c2,c3,c4,c5,c6⟩:=q j rfl;simp only[Nat.sub_zero]at c2 c3;rw[Array.getElem?_toList]at c2;refine⟨_,_,?_,hR.mapSet hpm hg hp g1 (ents':=ents.modify j fun e=>{ e with key:=.agg #[.int .i64 a,.int .i64 b],val:=cx }) (cl':=cl) (by simp[g2]) (fun i x' y' hi=>?_) ?_,h⟩
    ·have hkey:(Option.map (fun x=>x.key) ents[j]?).getD (Value.agg #[.int .i64 a,.int .i64 b])=.agg #[.int .i64 a,.int .i64 b]:=by rw[c2];simp[c4]
     simp[Instr.mapUpdate,underlying,hmt,getObj,Sem.run,g1,y2h_ hu ht hk hs,y47_ hu c6,Instr.keyThatStays,Instr.sameBits,y26_ g1,hkey]
    ·rw[List.getElem?_set]at hi
     rw[Array.getElem?_modify];by_cases hij:j=i
     ·subst hij
      rw[if_pos rfl]at hi
      split at hi
      ·cases hi
       exact⟨_,by rw[if_pos rfl,c2];rfl,ydp_,hx⟩
      ·cases hi
     ·rw[if_neg hij]at hi⊢
      exact g3 i x' y' hi
    ·exact MapKept.stamped_modify g4 _ _ (fun _ _=>rfl) (fun e' _ he'=>by rw[c2]at he';cases he';exact c4.symm)
   ·rename_i hf
    obtain⟨q,_⟩:=y1d_ (m:=m) hu ht hk hs w (ents:=ents.toList) (by simpa using g2) (fun j a b hj=>by simpa using g3 j a b hj) hf;refine⟨_,_,?_,hR.mapSet hpm hg hp g1 (ents':=ents.push { key:=.agg #[.int .i64 a,.int .i64 b],val:=cx,born:=cl }) (cl':=cl+1) (by simp[g2]) (fun i x' y' hi=>?_) ?_,h⟩
    ·simp[Instr.mapUpdate,underlying,hmt,getObj,Sem.run,g1,y2h_ hu ht hk hs,y47_ hu (q rfl),y26_ g1]
    ·rw[Array.getElem?_push,g2]
     by_cases hie:i=es.length
     ·subst hie
      rw[List.getElem?_append_right (Nat.le_refl _),Nat.sub_self]at hi;simp only[List.getElem?_cons_zero,Option.some.injEq,Prod.mk.injEq]at hi;obtain⟨rfl,rfl⟩:=hi;exact⟨_,if_pos rfl,ydp_,hx⟩
     ·rw[if_neg hie]
      have hlt:=(List.getElem?_eq_some_iff.1 hi).1;simp at hlt;rw[List.getElem?_append_left (by omega)]at hi;exact g3 i x' y' hi
    ·refine MapKept.stamped_push g4 fun e he hkey=>?_
     obtain⟨j,hj,hxj⟩:=List.getElem_of_mem he;have hj':j<es.length:=by rw[<-g2];simpa using hj
     obtain⟨e',h1,h2,_⟩:=g3 j es[j].1 es[j].2 (by simp[hj']);have hex:e'=e:=by
      rw[<-Array.getElem?_toList,List.getElem?_eq_getElem hj,hxj]at h1;exact(Option.some.inj h1).symm
     obtain⟨c,e3,h4,h5⟩:=y7c_ hf es[j] (List.getElem_mem hj');rw[h4,hex]at h2;have h2:=y74_ h2;rw[hkey]at h2;simp at h2;exact h5 h2
   ·cases h
  ·cases h
 ·cases h
end
end
end
section
open Go Go.RowKit
section
variable{Rt:Type}{C:Cx}{B:Nat->Prop}{w0:Base}{m:Nat->Option Pl}{σ:Heap}{w:World}{r:Rt}{e:Env}{a:Act}{next:Act->World->Prop}{Q:Exit->Act->World->Prop}{o:Oper}{K:AVal->Heap->Option Rt}
theorem y43_{α:Type}{xs:Array α}{x:α}(h:xs.toList=[x]):xs = #[x]:=by apply Array.ext';simpa using h
theorem y2r_{α:Type}{xs:Array α}{x y:α}(h:xs.toList=[x,y]):xs = #[x,y]:=by apply Array.ext';simpa using h
theorem pmf{w0:Base}{p:Prop}(h:w0.pm=true->p)(hn:¬p):w0.pm=false:=by
 cases hx:w0.pm with
 |false=>rfl
 |true=>exact absurd (h hx) hn
theorem yb0_{P:Program}(k:IntKind)(n:Int)(w:World):(asInt (.int k n)).run P w=.ok n w:=by rfl
theorem yel_{K:AVal->Heap->Option Rt}{P:Program}{t u el:TypeId}{k:IntKind}{ei:TI}{i:TypeInfo}{d:TypeDesc}{z:Value}(hu:P.underlying t=some (.slice el))(huu:P.underlying u=some (.int k))
  (ht:TiOk P el ei i d z) (hR:R B w0 m σ w) {s:AVal} {cs:Value} {n:Int} (ty:TypeId) (hs:VR m s cs) (h:appZ σ ei.size ei.bytes ei.zero s n K=some r):Yield P B w0 m K r (Builtin.append_ #[t,u] ty #[cs,.int .i64 n]) w:=by
 unfold appZ at h
 split at h
 ·simp only[VR]at hs;subst hs
  have hun:=TiOk.run_size ht
  split at h
  ·rename_i hn;subst hn
   refine Yield.pure (v:=.nils) (cv:=.slice none 0 0) ?_ hR (by simp only[VR]) h;have hw:IntKind.i64.wrap 0=0:=by decide
   simp[Builtin.append_,underlying,hu,huu,hun,yb0_,hw,ht.run_info]
  ·split at h
   ·rename_i hn0 hc
    obtain⟨c1,c2,c3⟩:=hc;obtain⟨q,rfl⟩:=Int.eq_ofNat_of_zero_le (show 0<=n by omega);simp only[newK,Int.toNat_natCast]at h;obtain⟨N,hN⟩:∃N,(Question.appendCap (0+q) 0 el).cut (w.tape w.drawn (.appendCap (0+q) 0 el))=N:=⟨_,rfl⟩;have hNle:0+q<=N:=by rw[<-hN];simp only[Question.cut];omega
    have hib:(q:Int)*i.bytes<=70368744177664:=by rw[ht.bytes];exact c2
    have hcapb:Builtin.nextslicecap (0+q) 0*i.bytes<=281474976710656:=by
     have h1:Builtin.nextslicecap (0+q) 0=0+q:=by unfold Builtin.nextslicecap;rw[if_pos (by omega)]
     rw[h1,Nat.zero_add];have:((q*i.bytes:Nat):Int)<=70368744177664:=by rw[Int.natCast_mul];exact hib
     omega
    have hw:IntKind.i64.wrap (q:Int)=(q:Int):=wrap_i64 (by omega) (by omega)
    let us:List Value:=(if q*ei.size=0 then(#[]:Array Value)else Builtin.zeroCells z.cells q).toList
    have hrun:(Builtin.append_ #[t,u] ty #[.slice none 0 0,.int .i64 q]).run P w =
      .ok (.slice (some ⟨w.heap.size,0,none⟩) (0+q) N) { w with heap:=w.heap.push (.cells (us.toArray++Builtin.zeroCells z.cells (N-(0+q))) el (0,0)),drawn:=w.drawn+1 }:=by
     have c1:¬(0+q<=0):=by omega
     have c2:¬(((0+q:Nat):Int)>IntKind.i64.max):=by
      have:IntKind.i64.max=9223372036854775807:=by decide
      omega
     have c3:¬(Builtin.nextslicecap (0+q) 0*i.bytes>2 ^ 48):=by omega
     have c4:¬((q:Int)<0):=by omega
     have c5:¬((q:Int)*i.bytes>2 ^ 48):=by omega
     have hforced:(Question.appendCap (0+q) 0 el).forced=false:=rfl;simp only[Builtin.append_,List.getElem?_toArray,List.getElem?_cons_zero,List.getElem?_cons_succ,Sem.run_bind,underlying,run_program,Result.andThen_ok,hu,huu,Sem.run_pure,hun,if_true,yb0_,hw,c4,c5,if_false,ht.run_info,Sem.run_ite,Int.toNat_natCast];simp only[c1,if_false,Sem.run_ite,Sem.run_bind,ht.run_info,Result.andThen_ok,c2,false_and,c3,run_choose,hforced,hN,run_askRoom,Bool.false_eq_true,Builtin.firstCells,Sem.run_pure,ht.run_zero,Bool.not_true,newRow,run_newObj,us];by_cases hz:q*ei.size=0
     ·simp[hz,ht.run_zero];rfl
     ·simp[hz,ht.run_zero];rfl
    refine⟨_,_,hrun,?_⟩;obtain⟨u1,u2⟩:=y1j_ (m:=m) ht.zs;have hzl:=ht.z_len;have hzn:=ht.zlen;have husz:us.length=q*ei.size:=by
     simp only[us]
     split
     ·rename_i e;simp[e]
     ·simp[Builtin.zeroCells,hzl]
    obtain⟨q1,q2⟩:=hR.row (sz:=ei.size) (cap:=N) (cs:=rep q ei.zero) (c:=us.toArray++Builtin.zeroCells z.cells (N-(0+q))) el (w.drawn+1)
     (by rw[y27_,hzn];exact Nat.mul_le_mul_right _ (by omega))
     (by simp only[Array.size_append,List.size_toArray,y52_,hzl,husz];rw[<-Nat.add_mul];exact Nat.le_of_eq (by congr 1;omega))
     (fun j a hj=>by
      have hlt:j<q*ei.size:=by have:=(List.getElem?_eq_some_iff.1 hj).1;rw[y27_,hzn]at this;exact this
      have hpos:0<ei.size:=by
       rcases Nat.eq_zero_or_pos ei.size with e|e
       ·rw[e]at hlt;simp at hlt
       ·exact e
      rw[y57_ _ (by omega) _ _ (by rw[hzn];exact hlt),hzn]at hj;obtain⟨v,v1,v2⟩:=u1.get _ _ hj;have hm:j % ei.size<z.cells.size:=by rw[hzl];exact Nat.mod_lt _ hpos
      refine⟨v,?_,v2,u2 v (List.mem_of_getElem? v1)⟩;rw[Array.getElem?_append_left (by rw[List.size_toArray,husz];exact hlt)];have hne:¬(q*ei.size=0):=by omega
      simp only[us,if_neg hne,Array.toArray_toList,Builtin.zeroCells,Array.getElem?_map,Array.getElem?_range,hzl,hlt,if_true,Option.map_some];rw[getElem!_pos z.cells _ hm];rw[Array.getElem?_toList,Array.getElem?_eq_getElem hm]at v1;exact v1)
    refine⟨_,_,_,h,q1,q2,?_⟩;simp only[VR];exact⟨_,N,⟨w.heap.size,0,none⟩,y1c_ _ _,fun _=>by simp,fun k hk=>(by cases hk),by omega,fun _=>by simp,by rw[Nat.zero_add]⟩
   ·cases h
 ·cases h
theorem yhm_{b:Builtin}{c:Call}{ty:TypeId}{consts:Array Bool}(hR:R B w0 m σ w)(hpm:w0.pm=true->b=.len\/b=.max\/b=.min)(hE:EnvR C m e a)(h:biK C e b c.argTypes.toList c.args.toList σ K=some r) :
  ∃cv w',(builtin b c.argTypes ty consts (c.args.map a.eval)).run C.P w=.ok (.value cv) w'/\y3n_ B w0 m K r cv w':=by
 unfold biK at h
 split at h
 ·
  rename_i t x e1 e2;rw[y43_ e1,y43_ e2];obtain⟨ti,i,d,z,ht,h⟩:=Cx.ti_spec h;obtain⟨v,h,hv⟩:=y5_ hE h
  split at h
  ·rename_i el hk
   have hd:=y1a_ (ht.tk▸hk);subst hd;unfold lenV at h
   split at h
   ·simp only[VR]at hv
    obtain⟨p,cv,o,_,_,_,_,_,hv⟩:=hv;exact⟨_,w,by simp[builtin,Builtin.len_,underlying,ht.und,hv];rfl,_,σ,m,h,Sub.refl m,hR,by simp[VR,goInt]⟩
   ·simp only[VR]at hv
    exact⟨_,w,by simp[builtin,Builtin.len_,underlying,ht.und,hv];rfl,_,σ,m,h,Sub.refl m,hR,by simp[VR,goInt]⟩
   ·cases h
  ·rename_i hk
   have hd:=y8o_ (ht.tk▸hk);subst hd;obtain⟨s,e3,h⟩:=yg_ h;subst e3;simp only[Kd.val,VR]at hv;exact⟨_,w,by simp[builtin,Builtin.len_,underlying,ht.und,hv];rfl,_,σ,m,h,Sub.refl m,hR,by simp[VR,goInt]⟩
  ·rename_i k el hk
   have hd:=y6c_ (ht.tk▸hk);subst hd;unfold lenM at h
   split at h
   ·rename_i l
    split at h
    ·rename_i es hg
     obtain⟨p,hp,ents,clock,g1,g2,g3,_⟩:=hR.obj l _ hg;simp only[VR]at hv;obtain⟨p',hp',hv⟩:=hv;rw[hp]at hp';cases hp';exact⟨_,w,by simp[builtin,Builtin.len_,underlying,ht.und,hv,getObj,Sem.run,g1];rfl,_,σ,m,h,Sub.refl m,hR,by simp[VR,goInt,g2]⟩
    ·cases h
   ·simp only[VR]at hv
    exact⟨_,w,by simp[builtin,Builtin.len_,underlying,ht.und,hv];rfl,_,σ,m,h,Sub.refl m,hR,by simp[VR,goInt]⟩
   ·cases h
  ·cases h
 ·
  rename_i t u x y e1 e2;rw[y2r_ e1,y2r_ e2];obtain⟨ti,i,d,z,ht,h⟩:=Cx.ti_spec h;obtain⟨s,h,hs⟩:=y5_ hE h;obtain⟨v,h,hv⟩:=y5_ hE h
  split at h
  ·rename_i el hk
   have hd:=y1a_ (ht.tk▸hk);subst hd;obtain⟨ei,i2,d2,z2,ht2,h⟩:=Cx.ti_spec h;obtain⟨ui,i3,d3,z3,ht3,h⟩:=Cx.ti_spec h;have done:Yield C.P B w0 m K r (Builtin.append_ #[t,u] ty #[a.eval x,a.eval y]) w->∃cv w',(builtin .append #[t,u] ty consts (Array.map a.eval #[x,y])).run C.P w=.ok (.value cv) w'/\y3n_ B w0 m K r cv w':=fun⟨cv,w',q1,q2⟩=>
    ⟨cv,w',by simp[builtin,q1],q2⟩
   split at h
   ·rename_i el2 hk2
    have hd:=y1a_ (ht3.tk▸hk2);subst hd;unfold appS at h;obtain⟨xs,n,us,h,hx⟩:=yga_ (P:=C.P) hR hv h;exact done (y68_ ht.und ht3.und (.inl ⟨_,rfl⟩) ht2 hR (pmf hpm (by simp)) ty hs hx h)
   ·rename_i hk2
    have hd:=y8o_ (ht3.tk▸hk2);subst hd;cases hb:(Nat.beq ei.size 1&&Nat.beq ei.bytes 1) with
    |false=>rw[hb]at h;cases h
    | true=>
     rw[hb]at h;simp only[cond_true]at h;obtain⟨hb1,hb2⟩:=Bool.and_eq_true_iff.1 hb;have s1:=Nat.eq_of_beq_eq_true hb1;have s2:=Nat.eq_of_beq_eq_true hb2;obtain⟨s',e3,h5⟩:=yg_ h;subst e3;simp only[Kd.val,VR]at hv;unfold appB at h5
     split at h5
     ·rename_i hsz
      have hx:SrcOk C.P m w ei.size (a.eval y) (s'.data.toList.map fun b=>.int .u8 b.toNat) s'.size (s'.data.toList.map fun b=>.int .u8 b.toNat):=by
       refine⟨fun w'=>by simp only[hv,Builtin.lenOf,Sem.run_pure],fun w' _=>?_,VRs.of_get (by simp only[List.length_map]) fun j x hx=>?_,fun u hu=>?_,by simp only[List.length_map,s1,Nat.mul_one];rfl⟩
       ·have hex:(s'.extract 0 s'.size).data=s'.data:=by rw[ByteArray.data_extract];exact Array.extract_size
        simp only[hv,Builtin.firstCells,hex,Sem.run_pure]
        congr 1
        apply Array.ext';simp only[Array.toList_map]
       ·simp only[List.getElem?_map,Option.map_eq_some_iff]at hx
        obtain⟨b,hb,rfl⟩:=hx;exact⟨_,by simp only[List.getElem?_map,hb,Option.map_some];rfl,by simp[VR]⟩
       ·obtain⟨b,_,rfl⟩:=List.mem_map.1 hu
        rfl
      exact done (y68_ ht.und ht3.und (.inr rfl) ht2 hR (pmf hpm (by simp)) ty hs hx (by rw[s1,s2];exact h5))
     ·cases h5
   ·rename_i kk hk2
    have hd:=y4k_ (ht3.tk▸hk2);subst hd;obtain⟨nn,e3,h5⟩:=yg_ h;subst e3;have hv2:a.eval y=.int .i64 nn:=by simpa only [Kd.val,VR]using hv
    refine done ?_;rw[hv2];exact yel_ ht.und ht3.und ht2 hR ty hs h5
   ·cases h
  ·cases h
 ·
  rename_i t x e1 e2;rw[y43_ e1,y43_ e2];obtain⟨ti,i,d,z,ht,h⟩:=Cx.ti_spec h
  split at h
  ·rename_i el hk
   have hd:=y1a_ (ht.tk▸hk);subst hd;obtain⟨ei,i2,d2,z2,ht2,h⟩:=Cx.ti_spec h;obtain⟨v,h,hv⟩:=y5_ hE h;have hpf:=pmf hpm (by simp);unfold y1s_ at h
   split at h
   ·simp only[VR]at hv
    exact⟨.tuple #[],w,by simp[builtin,Builtin.clear_,underlying,ht.und,hv],_,σ,m,h,Sub.refl m,hR,by simp only[VR,VRs];exact⟨[],rfl,rfl⟩⟩
   ·rename_i l off len c
    simp only[VR]at hv;obtain⟨p,cv,o,p1,p2,p3,p4,p5,hv⟩:=hv
    split at h
    ·rename_i hl;subst hl
     exact⟨.tuple #[],w,by simp[builtin,Builtin.clear_,underlying,ht.und,hv],_,σ,m,h,Sub.refl m,hR,by simp only[VR,VRs];exact⟨[],rfl,rfl⟩⟩
    ·rename_i hl
     split at h
     ·rename_i md sz' cs hg
      split at h
      ·rename_i hsz;subst hsz
       obtain⟨p',hp',ca,e3,fr,g1,g2,g3,g4,g5,g6,g7⟩:=hR.obj l _ hg;rw[p1]at hp';cases hp';simp only[stC,hg]at h;cases md with
       |ro=>cases h
       |rx=>cases h
       |rz=>cases h
       | rw=>
        ·dsimp only at h
         split at h
         ·rename_i hfit
          obtain⟨u1,u2⟩:=y1j_ (m:=m) ht2.zs;have hzl:=ht2.z_len;have hzn:=ht2.zlen;have hvs:VRs m (rep len ei.zero) (Builtin.zeroCells z2.cells len).toList:=by
           refine VRs.of_get (by simp[Builtin.zeroCells,y27_,hzl,hzn]) fun j y hj=>?_;have hlt:j<len*ei.size:=by have:=(List.getElem?_eq_some_iff.1 hj).1;rw[y27_,hzn]at this;exact this
           have hpos:0<ei.size:=by
            rcases Nat.eq_zero_or_pos ei.size with e|e
            ·rw[e]at hlt;simp at hlt
            ·exact e
           rw[y57_ _ (by omega) _ _ (by rw[hzn];exact hlt),hzn]at hj;obtain⟨v,v1,v2⟩:=u1.get _ _ hj;refine⟨v,?_,v2⟩;have hm:j % ei.size<z2.cells.size:=by rw[hzl];exact Nat.mod_lt _ hpos
           rw[Array.getElem?_toList];simp only[Builtin.zeroCells,Array.getElem?_map,Array.getElem?_range,hzl,hlt,if_true,Option.map_some];rw[getElem!_pos z2.cells _ hm];rw[Array.getElem?_toList,Array.getElem?_eq_getElem hm]at v1;exact v1
          have hone:∀u∈(Builtin.zeroCells z2.cells len).toList,u.oneCell'=true:=fun u hu=>by
           rw[Array.mem_toList_iff]at hu;simp only[Builtin.zeroCells,Array.mem_map,Array.mem_range]at hu;obtain⟨j,hj,rfl⟩:=hu;have hpos:0<z2.cells.size:=by
            rcases Nat.eq_zero_or_pos z2.cells.size with e|e
            ·rw[e]at hj;simp at hj
            ·exact e
           have hm:=Nat.mod_lt j hpos;rw[getElem!_pos z2.cells _ hm];exact u2 _ (by rw[Array.mem_toList_iff];exact Array.getElem_mem hm)
          obtain⟨w',q1,q2⟩:=R.store C.P hR hpf hg p1 hvs hone hfit;have ho:o=⟨p.blk,p.start+off*ei.size,none⟩:=by rw[p5 (by omega),g3]
          have hln:¬(len=0):=hl;obtain⟨len',rfl⟩:∃k,len=k+1:=⟨len-1,by omega⟩;refine⟨.tuple #[],w',?_,_,_,m,h,Sub.refl m,q2,by simp only[VR,VRs];exact⟨[],rfl,rfl⟩⟩;simp[builtin,Builtin.clear_,underlying,ht.und,hv,ht2.run_zero,ho,q1]
         ·cases h
      ·cases h
     ·cases h
   ·cases h
  ·cases h
 ·
  rename_i t u x y e1 e2;rw[y2r_ e1,y2r_ e2];obtain⟨ti,i,d,z,ht,h⟩:=Cx.ti_spec h;obtain⟨v,h,hv⟩:=y5_ hE h;obtain⟨s,h,hs⟩:=y5_ hE h
  split at h
  ·rename_i el hk
   have hd:=y1a_ (ht.tk▸hk);subst hd;obtain⟨ei,i2,d2,z2,ht2,h⟩:=Cx.ti_spec h;obtain⟨cv,w',q1,q2⟩:=yea_ (u:=u) (ty:=ty) ht.und ht2 hR (pmf hpm (by simp)) hv hs h;exact⟨cv,w',by simp[builtin,q1],q2⟩
  ·cases h
 ·
  rename_i t x e1 e2;rw[y43_ e1,y43_ e2];obtain⟨ti,i,d,z,ht,h⟩:=Cx.ti_spec h
  split at h
  ·rename_i el hk
   have hd:=y1a_ (ht.tk▸hk);subst hd;obtain⟨v,h,hv⟩:=y5_ hE h;unfold capV at h
   split at h
   ·simp only[VR]at hv
    exact⟨_,w,by simp[builtin,Builtin.cap_,underlying,ht.und,hv];rfl,_,σ,m,h,Sub.refl m,hR,by simp[VR,goInt]⟩
   ·simp only[VR]at hv
    obtain⟨p,cv,o,_,_,hc,_,_,hv⟩:=hv;have:=(hc _ rfl).1;subst this;exact⟨_,w,by simp[builtin,Builtin.cap_,underlying,ht.und,hv];rfl,_,σ,m,h,Sub.refl m,hR,by simp[VR,goInt]⟩
   ·cases h
  ·cases h
 ·
  rename_i t u x y e1 e2;rw[y2r_ e1,y2r_ e2];obtain⟨ti,i,d,z,ht,h⟩:=Cx.ti_spec h
  split at h
  ·rename_i kt et hk
   have hd:=y6c_ (ht.tk▸hk);subst hd;obtain⟨ki,i2,d2,z2,ht2,h⟩:=Cx.ti_spec h;obtain⟨v,h,hv⟩:=y5_ hE h;obtain⟨kv,h,hkv⟩:=y5_ hE h;obtain⟨k,n,q1,q2,h'⟩:=y61_ h
   clear h
   have hd2:=y4k_ (ht2.tk▸q1);subst hd2;subst q2;simp only[VR]at hkv;obtain⟨σ',w',r1,r2,r3⟩:=ye5_ (u:=u) (ty:=ty) ht.und ht2.und hR (pmf hpm (by simp)) hv h';exact⟨_,w',by simp[builtin,hkv,r1];rfl,_,σ',m,r3,Sub.refl m,r2,by simp only[VR,VRs];exact⟨[],rfl,rfl⟩⟩
  ·cases h
 ·
  rename_i x y e2;rw[y2r_ e2];obtain⟨v,h,hv⟩:=y5_ hE h;obtain⟨u,h,hu⟩:=y5_ hE h
  split at h
  ·simp only[VR]at hv hu
   exact⟨_,w,by simp[builtin,Builtin.max_,Builtin.max2,hv,hu];rfl,_,σ,m,h,Sub.refl m,hR,by simp[VR]⟩
  ·cases h
 ·
  rename_i x y e2;rw[y2r_ e2];obtain⟨v,h,hv⟩:=y5_ hE h;obtain⟨u,h,hu⟩:=y5_ hE h
  split at h
  ·simp only[VR]at hv hu
   exact⟨_,w,by simp[builtin,Builtin.min_,Builtin.min2,hv,hu];rfl,_,σ,m,h,Sub.refl m,hR,by simp[VR]⟩
  ·cases h
 ·cases h
theorem y9f_{X:Option Rt}:∀{fs:List (Nat×TypeId)},allTi C fs X=some r->X=some r/\∀f∈fs,∃ti i d z,TiOk C.P f.2 ti i d z
 |[],h=>⟨h,by simp⟩
 | f::fs,h=>by
  simp only[allTi]at h;obtain⟨ti,i,d,z,ht,h⟩:=Cx.ti_spec h;obtain⟨h1,h2⟩:=y9f_ h;exact⟨h1,fun g hg=>by
   rcases List.mem_cons.1 hg with e|e
   ·subst e;exact⟨ti,i,d,z,ht⟩
   ·exact h2 g e⟩
theorem yak_{P:Program}(w:World):∀(F:List Field),(∀f∈F,∃ti i d z,TiOk P f.type ti i d z) ->
  (F.mapM fun f=>do pure (f.offset,<-sizeOf f.type):Sem (List (Nat×Nat))).run P w=.ok (F.map fun f=>(f.offset,P.cellsOf f.type)) w
 |[],_=>by simp
 |f::F,h=>by
  obtain⟨ti,i,d,z,ht⟩:=h f (by simp);have ih:=yak_ w F (fun g hg=>h g (by simp[hg]));have hc:P.cellsOf f.type=ti.size:=by simp[Program.cellsOf,ht.info,ht.size]
  simp only[List.mapM_cons,Sem.run_bind,ht.run_size,Result.andThen_ok,Sem.run_pure,ih,List.map_cons,hc]
theorem y62_{P:Program}{NG:Nat}{f:FuncId}{s:Spec}(h:SpecOk P NG f s)(args:Array Value)(w:World):(callFunc f args).run P w=.ok (.enter f args) w:=by
 obtain⟨fn,h1,h2,h3⟩:=h.enters;simp only[callFunc,Sem.run_bind,run_program,Result.andThen_ok,h1,h2,h3,Bool.false_eq_true,if_false,Sem.run_pure,Sem.run_ite]
theorem y91_(off:Nat):∀(l:List (Value×Nat)) (us:Array Value),(l.foldl (fun(cs:Array Value) (x:Value×Nat)=>cs.setIfInBounds (off+x.2) x.1) us).size=us.size
 |[],us=>rfl
 |x::l,us=>by simp only[List.foldl_cons];rw[y91_ off l];simp
theorem ya5_(pl:Nat->Option (Nat×Nat)):∀(ps:List (Nat×Value)) (us us':Array Value),Instr.fill pl us ps=some us'->us'.size=us.size
 |[],us,us',h=>by simp[Instr.fill]at h;rw[h]
 | (i,v)::ps,us,us',h=>by
  simp only[Instr.fill]at h
  split at h
  ·cases h
  ·split at h
   ·cases h
   ·rw[ya5_ pl ps _ us' h,<-Array.foldl_toList]
    exact y91_ _ _ _
theorem yis_(hC:∀f s,C.calls f=some s->SpecOk C.P C.NG f s)(hR:R B w0 m σ w)(hE:EnvR C m e a){id:FuncId}(hpm:w0.pm=true->isPur (C.calls id)=true){args:List AVal}{cargs:List Value}(hargs:VRs m args cargs)
  (hx:(execOp a.eval o).run C.P w=(callFunc id cargs.toArray).run C.P w) (h:yr_ (C.calls id) args σ K=some r)
  (hn:∀cv w',y3n_ B w0 m K r cv w'->next (a.put o.dst cv) w'):o.wp C.P a w next Q:=by
 cases hs:C.calls id with
 |none=>rw[hs]at h;simp only[yr_]at h;cases h
 | some s=>
  rw[hs,y3w_]at h;have ok:=hC id s hs;rw[Oper.wp,hx,y62_ ok];cases hg:s.run args σ with
  |none=>rw[hg]at h;cases h
  |some x=>
   rw[hg]at h;simp only[Option.bind_some]at h;refine(ok.calls B w0 m σ w args cargs x.1 x.2 (by rw[hg]) hR (by rw[<-hs];exact hpm) hE.glob hargs).mono ?_;rintro e1 w1 ⟨m',cv,rfl,S,hR',hv⟩;exact hn cv w1 ⟨_,_,m',h,S,hR',hv⟩
theorem y5l_{t:TypeId}{ti:TI}{i:TypeInfo}{d:TypeDesc}{z:Value}(ht:TiOk C.P t ti i d z){K':AVal->Option Rt}(h:zeroK ti K'=some r):∃a,K' a=some r/\VR m a z:=by
 unfold zeroK at h;cases hag:isAg ti.tk with
 |true=>rw[hag]at h;cases h
 | false=>
  rw[hag]at h;simp only[cond_false]at h
  split at h
  ·rename_i zz hz
   obtain⟨u1,u2⟩:=y1j_ (m:=m) ht.zs;rw[hz]at u1;obtain⟨vz,h1,h2⟩:=u1.get 0 zz rfl;rw[yau_ (ht.one hag)]at h1;simp at h1;subst h1;exact⟨zz,h,h2⟩
  ·cases h
theorem y6k_{t:TypeId}{v:AVal}{K:AVal->Option Rt}(h:coeK C t v K=some r):K v=some r:=by
 unfold coeK at h
 split at h
 ·rename_i ti ht
  cases hb:isAg ti.tk with
  |true=>rw[hb]at h;exact h
  |false=>
   rw[hb]at h;simp only[cond_false]at h;obtain⟨x,h1,h2⟩:=yg_ h;rw[<-h1];exact h2
 ·exact h
theorem yat_{t:TypeId}{x y u:Operand}(hR:R B w0 m σ w)(hpm:w0.pm=false)(hE:EnvR C m e a)(h:mupK C e t x y u σ K=some r) :
  ∃w',(Instr.mapUpdate t (a.eval x) (a.eval y) (a.eval u)).run C.P w=.ok () w'/\y3n_ B w0 m K r undef w':=by
 unfold mupK at h;obtain⟨ti,i,d,z,ht,h⟩:=Cx.ti_spec h
 split at h
 ·rename_i kt et hk
  have hd:=y6c_ (ht.tk▸hk);subst hd;obtain⟨ki,i2,d2,z2,ht2,h⟩:=Cx.ti_spec h;obtain⟨v,h,hv⟩:=y5_ hE h;obtain⟨kv,h,hkv⟩:=y5_ hE h;obtain⟨uv,h,huv⟩:=y5_ hE h;cases hag:isAg ki.tk with
  |false=>
   rw[hag]at h;simp only[cond_false]at h;obtain⟨k,n,e1,e2,h'⟩:=y61_ h
   clear h
   have hd2:=y4k_ (ht2.tk▸e1);subst hd2;subst e2;simp only[VR]at hkv;obtain⟨σ',w',q1,q2,q3⟩:=yf0_ ht.und ht2.und hR hpm hv huv h';exact⟨w',by rw[hkv];exact q1,.tup [],σ',m,q3,Sub.refl m,q2,by simp only[VR];exact⟨[],rfl,by simp[VRs]⟩⟩
  |true=>
   rw[hag]at h;simp only[cond_true]at h;obtain⟨el,ei,ka,kb,e1,e2,e3,e4,e5,h'⟩:=y8f_ h
   clear h
   have hd2:=y6e_ (ht2.tk▸e1);subst hd2;obtain⟨i3,d3,z3,ht3⟩:=y3o_ e2;subst e5;have hkv:=y74_ hkv;obtain⟨σ',w',q1,q2,q3⟩:=yci_ ht.und ht2.und ht3 e3 e4 hR hpm hv huv h';exact⟨w',by rw[hkv];exact q1,.tup [],σ',m,q3,Sub.refl m,q2,by simp only[VR];exact⟨[],rfl,by simp[VRs]⟩⟩
 ·cases h
theorem y2q_(hC:∀f s,C.calls f=some s->SpecOk C.P C.NG f s)(hR:R B w0 m σ w)(hpm:w0.pm=true->y8_ C o=true)(hE:EnvR C m e a)(h:dop C e o σ K=some r)
  (hn:∀cv w',y3n_ B w0 m K r cv w'->next (a.put o.dst cv) w'):o.wp C.P a w next Q:=by
 have value:∀(v:AVal) (cv:Value),(execOp a.eval o).run C.P w=.ok (.value cv) w->K v σ=some r->VR m v cv->o.wp C.P a w next Q:=fun v cv h1 h2 h3=>
  yu_ h1 (hn cv w ⟨v,σ,m,h2,Sub.refl m,hR,h3⟩)
 unfold dop at h
 split at h
 ·
  rename_i x hop;obtain⟨v,h1,h2⟩:=y5_ hE h;exact value v _ (by simp[execOp,hop]) h1 h2
 ·
  rename_i x hop;obtain⟨v,h1,h2⟩:=y5_ hE h;exact value v _ (by simp[execOp,hop]) h1 h2
 ·
  rename_i c x y hop;obtain⟨v,h,h2⟩:=y5_ hE h;obtain⟨b,e1,h⟩:=yg_ h;subst e1;simp only[Kd.val,VR]at h2;cases b with
  |true=>
   have h:ev C e x (fun v=>K v σ)=some r:=h;obtain⟨v,h1,h3⟩:=y5_ hE h;exact value v _ (by simp[execOp,hop,h2,asBool]) h1 h3
  |false=>
   have h:ev C e y (fun v=>K v σ)=some r:=h;obtain⟨v,h1,h3⟩:=y5_ hE h;exact value v _ (by simp[execOp,hop,h2,asBool]) h1 h3
 ·
  rename_i t hop;obtain⟨ti,i,d,z,ht,h⟩:=Cx.ti_spec h;simp only[newK]at h;obtain⟨u1,u2⟩:=y1j_ (m:=m) ht.zs;obtain⟨q1,q2⟩:=hR.row (sz:=ti.size) (cap:=1) (cs:=ti.zero) (c:=z.cells) t w.drawn (by rw[ht.zlen];omega) (by rw[ht.z_len];omega) (fun j x hj=>by
   obtain⟨v,v1,v2⟩:=u1.get _ _ hj;exact⟨v,by simpa using v1,v2,u2 v (List.mem_of_getElem? v1)⟩)
  refine yu_ (cv:=.pointer (some ⟨w.heap.size,0,none⟩)) (w':={ w with heap:=w.heap.push (.cells z.cells t (0,0)) }) ?_ (hn _ _ ⟨_,_,_,h,q1,q2,?_⟩)
  ·simp[execOp,hop,Instr.alloc,ht.run_zero,newVar,newRow]
  ·simp only[VR];exact⟨_,y1c_ _ _,rfl⟩
 ·
  rename_i t x hop;obtain⟨ti,i,d,z,ht,h⟩:=Cx.ti_spec h;obtain⟨v,h,hv⟩:=y5_ hE h;obtain⟨vs,h,c1,c2,c3⟩:=y4g_ hv h;simp only[newK]at h;have hl:=c1.length;obtain⟨q1,q2⟩:=hR.row (sz:=ti.size) (cap:=1) (cs:=vs) (c:=(a.eval x).cells) t w.drawn (by omega) (by simp at hl;omega) (fun j x hj=>by
   obtain⟨v,v1,v2⟩:=c1.get _ _ hj;exact⟨v,by simpa using v1,v2,c2 v (List.mem_of_getElem? v1)⟩)
  refine yu_ (cv:=.pointer (some ⟨w.heap.size,0,none⟩)) (w':={ w with heap:=w.heap.push (.cells (a.eval x).cells t (0,0)) }) ?_ (hn _ _ ⟨_,_,_,h,q1,q2,?_⟩)
  ·simp[execOp,hop,Instr.box,newVar,newRow]
  ·simp only[VR];exact⟨_,y1c_ _ _,rfl⟩
 ·
  rename_i t ps hop;obtain⟨ti,i,d,z,ht,h⟩:=Cx.ti_spec h;obtain⟨u1,u2⟩:=y1j_ (m:=m) ht.zs;have hps:(ps.map fun(x:Nat×Operand)=>(x.1,a.eval x.2)).toList=ps.toList.map fun x=>(x.1,a.eval x.2):=by simp
  split at h
  ·rename_i fs hk
   obtain⟨F,hd,hfs⟩:=y7y_ (ht.tk▸hk);subst hd;obtain⟨h,hall⟩:=y9f_ h;have hall':∀f∈F.toList,∃ti i d z,TiOk C.P f.type ti i d z:=fun f hf=>by
    have:=hall (f.offset,f.type) (by rw[hfs];exact List.mem_map.2 ⟨f,hf,rfl⟩);exact this
   obtain⟨cs',us',q1,q2,q3,q4⟩:=y41_ hE ((F.map fun f=>(f.offset,C.P.cellsOf f.type))[·]?) (fs[·]?) (fun i off t hi=>by
    subst hfs;simp only[List.getElem?_map,Option.map_eq_some_iff]at hi;obtain⟨f,hf,e1⟩:=hi;cases e1;refine⟨C.P.cellsOf f.type,fun ti i d z ht=>by simp[Program.cellsOf,ht.info,ht.size],?_⟩;rw[Array.getElem?_toList]at hf;simp[hf]) ps.toList ti.zero z.cells u1 u2 h
   refine value _ (.agg us') ?_ q2 (by simp only[VR];exact⟨us'.toList,by simp,q3,q4⟩);have hrun:=yak_ (P:=C.P) w F.toList hall';simp only[execOp,hop,Instr.build,Sem.run_bind,ht.run_zero,Result.andThen_ok,ht.run_und,Array.mapM_eq_mapM_toList,Sem.run_map,hrun];have he:(List.map (fun f=>(f.offset,C.P.cellsOf f.type)) F.toList).toArray=F.map fun f=>(f.offset,C.P.cellsOf f.type):=by apply Array.ext';simp
   rw[he,hps,q1];rfl
  ·rename_i n el hk
   have hd:=y6e_ (ht.tk▸hk);subst hd;obtain⟨ei,i2,d2,z2,ht2,h⟩:=Cx.ti_spec h;obtain⟨cs',us',q1,q2,q3,q4⟩:=y41_ hE (fun i=>some (i*ei.size,ei.size)) (fun i=>some (i*ei.size,el)) (fun i off t hi=>by
    cases hi;exact⟨ei.size,fun ti i d z ht=>by have:=ht.info.symm.trans ht2.info;cases this;rw[<-ht.size,<-ht2.size],rfl⟩) ps.toList ti.zero z.cells u1 u2 h
   refine value _ (.agg us') ?_ q2 (by simp only[VR];exact⟨us'.toList,by simp,q3,q4⟩);simp only[execOp,hop,Instr.build,Sem.run_bind,ht.run_zero,Result.andThen_ok,ht.run_und,ht2.run_size];rw[hps,q1];rfl
  ·cases h
 ·
  rename_i t len ps hop;obtain⟨ti,i,d,z,ht,h⟩:=Cx.ti_spec h;have hps:(ps.map fun(x:Nat×Operand)=>(x.1,a.eval x.2)).toList=ps.toList.map fun x=>(x.1,a.eval x.2):=by simp
  split at h
  ·rename_i el hk
   have hd:=y1a_ (ht.tk▸hk);subst hd;obtain⟨ei,i2,d2,z2,ht2,h⟩:=Cx.ti_spec h;cases hb:Nat.ble (len*ei.size) 16777216 with
   |false=>rw[hb]at h;cases h
   | true=>
    rw[hb]at h;simp only[cond_true]at h;have hle:len*ei.size<=16777216:=Nat.le_of_ble_eq_true hb;obtain⟨u1,u2⟩:=y1j_ (m:=m) ht2.zs
    let zz:Array Value:=(Array.range (len*ei.size)).map ((if len*ei.size=0 then #[]else z2.cells)[· % (if len*ei.size=0 then #[]else z2.cells).size]!)
    have hrep:VRs m (rep len ei.zero) zz.toList/\∀u∈zz.toList,u.oneCell'=true:=by
     have hget:∀(j:Nat) (x:AVal),(rep len ei.zero)[j]?=some x->∃v,zz.toList[j]?=some v/\VR m x v/\v.oneCell'=true:=fun j x hj=>by
      have hlt:j<len*ei.size:=by
       have:=(List.getElem?_eq_some_iff.1 hj).1;rw[y27_,ht2.zlen]at this;exact this
      have hpos:0<ei.size:=by
       rcases Nat.eq_zero_or_pos ei.size with e|e
       ·rw[e]at hlt;simp at hlt
       ·exact e
      rw[y57_ _ (by rw[ht2.zlen];exact hpos) _ _ (by rw[ht2.zlen];exact hlt),ht2.zlen]at hj;obtain⟨v,v1,v2⟩:=u1.get _ _ hj;refine⟨v,?_,v2,u2 v (List.mem_of_getElem? v1)⟩;have hm:j % ei.size<z2.cells.size:=by rw[ht2.z_len];exact Nat.mod_lt _ hpos
      rw[Array.getElem?_toList];simp only[zz];rw[if_neg (by omega)];simp only[Array.getElem?_map,Array.getElem?_range,hlt,if_true,Option.map_some,ht2.z_len];rw[getElem!_pos z2.cells _ hm];rw[Array.getElem?_toList,Array.getElem?_eq_getElem hm]at v1;exact v1
     refine⟨VRs.of_get (by simp[zz,y27_,ht2.zlen]) fun j x hj=>let⟨v,v1,v2,_⟩:=hget j x hj;⟨v,v1,v2⟩,fun u hu=>?_⟩;obtain⟨j,hj,rfl⟩:=List.getElem_of_mem hu;have hj2:j<(rep len ei.zero).length:=by simp[zz]at hj;rw[y27_,ht2.zlen];exact hj
     obtain⟨v,v1,v2,v3⟩:=hget j _ (List.getElem?_eq_getElem hj2);rw[List.getElem?_eq_getElem hj]at v1;cases v1;exact v3
    obtain⟨cs',us',q1,q2,q3,q4⟩:=y41_ hE (fun i=>some (i*ei.size,ei.size)) (fun i=>some (i*ei.size,el)) (fun i off t hi=>by
     cases hi;exact⟨ei.size,fun ti i d z ht=>by have:=ht.info.symm.trans ht2.info;cases this;rw[<-ht.size,<-ht2.size],rfl⟩) ps.toList (rep len ei.zero) zz hrep.1 hrep.2 h
    simp only[newK]at q2;have hl:=q3.length;have hfl:us'.size=len*ei.size:=by
     have hz:zz.size=len*ei.size:=by simp[zz]
     rw[<-hz];exact ya5_ _ _ _ _ q1
    obtain⟨k1,k2⟩:=hR.row (sz:=ei.size) (cap:=len) (cs:=cs') (c:=us') el w.drawn (by simp at hl;omega) (by omega) (fun j x hj=>by
     obtain⟨v,v1,v2⟩:=q3.get _ _ hj;exact⟨v,by simpa using v1,v2,q4 v (List.mem_of_getElem? v1)⟩)
    refine yu_ (cv:=.slice (some ⟨w.heap.size,0,none⟩) len len) (w':={ w with heap:=w.heap.push (.cells us' el (0,0)) }) ?_ (hn _ _ ⟨_,_,_,q2,k1,k2,?_⟩)
    ·have hbig:¬(len*ei.size>2 ^ 24):=by omega
     simp only[execOp,hop,Instr.buildSlice,Sem.run_bind,ht.run_und,Result.andThen_ok,ht2.run_size,hbig,if_false,Sem.run_ite,Sem.run_pure,ht2.run_zero,hps];by_cases hz:len*ei.size=0
     ·simp only[zz,if_pos hz]at q1
      simp only[if_pos hz,Sem.run_bind,Sem.run_pure,Result.andThen_ok];rw[q1];simp[newRow]
     ·simp only[zz,if_neg hz]at q1
      simp only[if_neg hz,Sem.run_bind,Sem.run_pure,Result.andThen_ok,ht2.run_zero];rw[q1];simp[newRow]
    ·simp only[VR];exact⟨_,len,_,y1c_ _ _,fun _=>by simp,fun k hk=>(by cases hk),Nat.le_refl _,fun _=>by simp,rfl⟩
  ·cases h
 ·
  rename_i t x hop;obtain⟨ti,i,d,z,ht,h⟩:=Cx.ti_spec h;obtain⟨v,h,hv⟩:=y5_ hE h;exact y7v_ (by simp[execOp,hop]) (yf2_ ht hR hv h) hn
 ·
  rename_i t x y hop;obtain⟨ti,i,d,z,ht,h⟩:=Cx.ti_spec h;obtain⟨v,h,hv⟩:=y5_ hE h;obtain⟨u,h,hu⟩:=y5_ hE h;obtain⟨w',σ',h1,h2,h3⟩:=ycj_ ht hR (pmf hpm (by simp[y8_,hop])) hv hu h;rw[Oper.wp,show(execOp a.eval o).run C.P w=.ok .skip w' by simp[execOp,hop,h1],Oper.upon];exact hn undef w' ⟨.tup [],σ',m,h3,Sub.refl m,h2,by simp only[VR];exact⟨[],rfl,by simp[VRs]⟩⟩
 ·
  rename_i x hop;obtain⟨v,h,hv⟩:=y5_ hE h;have hv':=hv;unfold nilck at h
  split at h
  ·simp only[VR]at hv;obtain⟨p,_,e1⟩:=hv
   exact value _ _ (by simp[execOp,hop,e1]) h hv'
  ·simp only[VR]at hv;obtain⟨p,e1,_⟩:=hv
   exact value _ _ (by simp[execOp,hop,e1]) h hv'
  ·simp only[VR]at hv;obtain⟨p,q,e1,_⟩:=hv
   exact value _ _ (by simp[execOp,hop,e1]) h hv'
  ·cases h
 ·
  rename_i op t x y ty hop;obtain⟨ti,i,d,z,ht,h⟩:=Cx.ti_spec h;obtain⟨v,h,hv⟩:=y5_ hE h;obtain⟨u,h,hu⟩:=y5_ hE h;obtain⟨x1,cv,h1,h2,h3⟩:=ye9_ ht hR hv hu h;exact value x1 cv (by simp only[execOp,hop,Sem.run_bind]at h1⊢;rw[h1];rfl) h2 h3
 ·
  rename_i op t x hop;obtain⟨v,h,hv⟩:=y5_ hE h
  split at h
  ·simp only[VR]at hv
   exact value _ _ (by simp[execOp,hop,hv,Op.unary,Op.intArith];rfl) h (by simp[VR])
  ·simp only[VR]at hv
   exact value _ _ (by simp[execOp,hop,hv,Op.unary];rfl) h (by simp[VR])
  ·cases h
 ·
  rename_i t1 t x hop;obtain⟨ti0,i0,d0,z0,ht0,h⟩:=Cx.ti_spec h;obtain⟨ti,i,d,z,ht,h⟩:=Cx.ti_spec h;obtain⟨v,h,hv⟩:=y5_ hE h
  split at h
  ·rename_i k k' n hk
   have hd:=y4k_ (ht.tk▸hk);subst hd;simp only[VR]at hv;exact value _ _ (by simp[execOp,hop,hv,convert,ht0.run_und,ht.run_und,Conv.intToInt];rfl) h (by simp[VR])
  ·cases h
 ·
  rename_i t x hop;obtain⟨ti,i,d,z,ht,h⟩:=Cx.ti_spec h;obtain⟨v,h,hv⟩:=y5_ hE h
  split at h
  ·cases h
  ·rename_i hk
   refine value _ (.iface t (a.eval x)) ?_ h (by simp only[VR];exact⟨_,rfl,hv⟩);have hni:∀ms,d≠.interface ms:=fun ms e=>by subst e;exact hk _ (by rw[ht.tk];rfl)
   simp only[execOp,hop,Instr.makeInterface,Sem.run_bind,ht.run_und,Result.andThen_ok];cases d<;>first|exact absurd rfl (hni _)|rfl
 ·
  rename_i f fi ca hop;obtain⟨vs,h,hvs⟩:=y4o_ hE h;obtain⟨us,h,hus⟩:=y4o_ hE h;refine value _ (.func f (fi.map a.eval) (ca.map a.eval)) (by simp[execOp,hop,Instr.makeFunc]) h ?_;simp only[VR];exact⟨_,_,by congr 1<;>(apply Array.ext';simp),hvs,hus⟩
 ·
  rename_i t x y hop;obtain⟨ti,i,d,z,ht,h⟩:=Cx.ti_spec h
  split at h
  ·rename_i el hk
   have hd:=y1a_ (ht.tk▸hk);subst hd;obtain⟨ei,i2,d2,z2,ht2,h⟩:=Cx.ti_spec h;obtain⟨v,h,hv⟩:=y5_ hE h;obtain⟨u,h,hu⟩:=y5_ hE h;obtain⟨k1,n1,e1,h⟩:=y2w_ hv h;obtain⟨k2,n2,e2,h⟩:=y2w_ hu h;exact y7v_ (s:=Instr.makeSlice t (.int k1 n1) (.int k2 n2)) (by simp[execOp,hop,e1,e2]) (y95_ ht.und ht2 hR h) hn
  ·cases h
 ·
  rename_i t x lo hi mx hop;obtain⟨ti,i,d,z,ht,h⟩:=Cx.ti_spec h;obtain⟨v,h,hv⟩:=y5_ hE h;obtain⟨n1,h,o1⟩:=y5a_ hE h;obtain⟨n2,h,o2⟩:=y5a_ hE h;obtain⟨n3,h,o3⟩:=y5a_ hE h
  split at h
  ·rename_i el hk
   have hd:=y1a_ (ht.tk▸hk);subst hd;obtain⟨ei,i2,d2,z2,ht2,h⟩:=Cx.ti_spec h;exact y7v_ (by simp[execOp,hop]) (yd2_ ht.und ht2 hR hv o1 o2 o3 h) hn
  ·rename_i hk
   have hd:=y8o_ (ht.tk▸hk);subst hd
   split at h
   ·obtain⟨s,e1,h5⟩:=yg_ h
    subst e1;simp only[Kd.val,VR]at hv;unfold slB at h5
    split at h5
    ·rename_i hc
     simp only[optV]at o3;have hb:=y31_ (P:=C.P) (b:=false) (len:=ByteArray.size s) (cap:=ByteArray.size s) (mx:=none) (cm:=none) o1 o2 rfl (Nat.le_refl _) hc.1 hc.2.1 (by simpa using hc.2.2) (by simp) rfl w;refine value _ (.string (ByteArray.extract s (n1.getD 0).toNat (n2.getD (ByteArray.size s)).toNat)) ?_ h5 (by simp[VR]);simp only[execOp,hop,Sem.run_bind,Instr.sliceAt,ht.run_und,Result.andThen_ok,Instr.slice,hv,o3,Option.isSome_none,Bool.false_eq_true,if_false,Sem.run_pure,hb]
    ·cases h5
   ·cases h
  ·cases h
 ·
  rename_i t x f hop;obtain⟨ti,i,d,z,ht,h⟩:=Cx.ti_spec h
  split at h
  ·rename_i fs hk
   obtain⟨F,hd,hfs⟩:=y7y_ (ht.tk▸hk);subst hd
   split at h
   ·rename_i off u hf
    subst hfs;simp only[List.getElem?_map,Option.map_eq_some_iff]at hf;obtain⟨g,hg,e1⟩:=hf;cases e1;rw[Array.getElem?_toList]at hg;obtain⟨ui,i2,d2,z2,ht2,h⟩:=Cx.ti_spec h;cases hb:Nat.beq ui.size 0 with
    |true=>rw[hb]at h;cases h
    | false=>
     rw[hb]at h;simp only[cond_false]at h;have hsz:ui.size≠0:=fun e=>by rw[e]at hb;cases hb
     obtain⟨v,h,hv⟩:=y5_ hE h;unfold fld at h
     split at h
     ·simp only[VR]at hv
      obtain⟨p,hp,hv⟩:=hv;refine value _ _ ?_ h (by simp only[VR];exact⟨p,hp,rfl⟩);simp only[execOp,hop,Sem.run_bind,Instr.fieldAt,ht.run_und,Result.andThen_ok,hg,hv,Instr.sureAddr,Sem.run_pure,fieldPlace,ht2.run_size,Sem.run_ite,hsz,if_false,y2l_,Nat.add_assoc]
     ·cases h
   ·cases h
  ·cases h
 ·
  rename_i t x f hop;obtain⟨ti,i,d,z,ht,h⟩:=Cx.ti_spec h
  split at h
  ·rename_i fs hk
   obtain⟨F,hd,hfs⟩:=y7y_ (ht.tk▸hk);subst hd
   split at h
   ·rename_i off u hf
    subst hfs;simp only[List.getElem?_map,Option.map_eq_some_iff]at hf;obtain⟨g,hg,e1⟩:=hf;cases e1;rw[Array.getElem?_toList]at hg;obtain⟨ui,i2,d2,z2,ht2,h⟩:=Cx.ti_spec h;obtain⟨v,h,hv⟩:=y5_ hE h;have hag:∃cs,a.eval x=.agg cs:=by
     have:∃as0,v=.agg as0:=by
      unfold partK at h;cases hb:isAg ui.tk with
      |true=>
       rw[hb]at h;simp only[cond_true,agG]at h
       split at h
       ·exact⟨_,rfl⟩
       ·cases h
      |false=>
       rw[hb]at h;simp only[cond_false,agS]at h
       split at h
       ·exact⟨_,rfl⟩
       ·cases h
     obtain⟨as0,rfl⟩:=this;simp only[VR]at hv;obtain⟨vs,e1,_⟩:=hv;exact⟨_,e1⟩
    obtain⟨cs,hcs⟩:=hag;rw[hcs]at hv;obtain⟨y,cy,h1,h2,h3⟩:=y96_ (w:=w) ht2 hv h;refine value y cy ?_ h2 h3;simp only[execOp,hop,Sem.run_bind,Instr.field,ht.run_und,Result.andThen_ok,hg,hcs,asAgg,Sem.run_pure,h1]
   ·cases h
  ·cases h
 ·
  rename_i t x y hop;obtain⟨ti,i,d,z,ht,h⟩:=Cx.ti_spec h;obtain⟨v,h,hv⟩:=y5_ hE h;obtain⟨u,h,hu⟩:=y5_ hE h;obtain⟨k,n,e1,h⟩:=y2w_ hu h
  split at h
  ·rename_i el hk
   have hd:=y1a_ (ht.tk▸hk);subst hd;obtain⟨ei,i2,d2,z2,ht2,h⟩:=Cx.ti_spec h;unfold ixA at h
   split at h
   ·rename_i l off len c _ _ _
    split at h
    ·rename_i md sz cs hg
     split at h
     ·rename_i hc
      obtain⟨c1,c2,c3⟩:=hc;simp only[VR]at hv;obtain⟨p,cv,o2,p1,p2,p3,p4,p5,hv⟩:=hv;obtain⟨p',hp',ca,e2,fr,g1,g2,g3,g4,g5,g6,g7⟩:=hR.obj l _ hg;rw[p1]at hp';cases hp';have ho:o2=⟨p.blk,p.start+off*ei.size,none⟩:=by rw[p5 (by omega),g3,c1]
      refine value _ _ ?_ h (by simp only[VR];exact⟨p,p1,rfl⟩);have hin:0<=n/\n<(len:Int):=⟨c2,c3⟩;simp only[execOp,hop,Sem.run_bind,Instr.indexAt,e1,asIntOf,Sem.run_pure,Result.andThen_ok,ht.run_und,hv,hin,and_self,if_true,Sem.run_ite,ht2.run_size,ho,y2l_];rw[Nat.add_mul,Nat.add_assoc]
     ·cases h
    ·cases h
   ·cases h
  ·rename_i ln el hk
   have hd:=y6e_ (ht.tk▸hk);subst hd;obtain⟨ei,i2,d2,z2,ht2,h⟩:=Cx.ti_spec h;unfold ixP at h
   split at h
   ·rename_i l o2
    split at h
    ·rename_i hc
     simp only[VR]at hv;obtain⟨p,p1,hv⟩:=hv;refine value _ _ ?_ h (by simp only[VR];exact⟨p,p1,rfl⟩);simp only[execOp,hop,Sem.run_bind,Instr.indexAt,e1,asIntOf,Sem.run_pure,Result.andThen_ok,ht.run_und,hv,Instr.sureAddr,hc,and_self,if_true,Sem.run_ite,ht2.run_size,y2l_,Nat.add_assoc]
    ·cases h
   ·cases h
  ·cases h
 ·
  rename_i t x y hop;obtain⟨ti,i,d,z,ht,h⟩:=Cx.ti_spec h;obtain⟨v,h,hv⟩:=y5_ hE h;obtain⟨u,h,hu⟩:=y5_ hE h;obtain⟨k,n,e1,h⟩:=y2w_ hu h
  split at h
  ·rename_i hk
   have hd:=y8o_ (ht.tk▸hk);subst hd;obtain⟨s,e2,h5⟩:=yg_ h;subst e2;simp only[Kd.val,VR]at hv;unfold ixB at h5
   split at h5
   ·rename_i hpos
    split at h5
    ·rename_i b hb
     refine value _ (.int .u8 b.toNat) ?_ h5 (by simp[VR]);simp only[execOp,hop,Sem.run_bind,Instr.index,e1,asIntOf,Sem.run_pure,Result.andThen_ok,ht.run_und,hv,hpos,if_true,hb]
    ·cases h5
   ·cases h5
  ·rename_i ln el hk
   have hd:=y6e_ (ht.tk▸hk);subst hd;obtain⟨ei,i2,d2,z2,ht2,h⟩:=Cx.ti_spec h
   split at h
   ·rename_i hc
    have hag:∃cs,a.eval x=.agg cs:=by
     have:∃as0,v=.agg as0:=by
      unfold partK at h;cases hb:isAg ei.tk with
      |true=>
       rw[hb]at h;simp only[cond_true,agG]at h
       split at h
       ·exact⟨_,rfl⟩
       ·cases h
      |false=>
       rw[hb]at h;simp only[cond_false,agS]at h
       split at h
       ·exact⟨_,rfl⟩
       ·cases h
     obtain⟨as0,rfl⟩:=this;simp only[VR]at hv;obtain⟨vs,e1,_⟩:=hv;exact⟨_,e1⟩
    obtain⟨cs,hcs⟩:=hag;rw[hcs]at hv;obtain⟨y',cy,h1,h2,h3⟩:=y96_ (w:=w) ht2 hv h;refine value y' cy ?_ h2 h3;simp only[execOp,hop,Sem.run_bind,Instr.index,e1,asIntOf,Sem.run_pure,Result.andThen_ok,ht.run_und,hcs,hc,and_self,if_true,ht2.run_size,h1]
   ·cases h
  ·cases h
 ·
  rename_i x i hop;obtain⟨v,h,hv⟩:=y5_ hE h;unfold tupK at h
  split at h
  ·split at h
   ·rename_i y hy
    simp only[VR]at hv;obtain⟨vs,e1,h1⟩:=hv;obtain⟨cy,h2,h3⟩:=h1.get _ _ hy;exact value y cy (by simp[execOp,hop,Instr.extract,e1,h2]) h h3
   ·cases h
  ·cases h
 ·
  rename_i c hop
  split at h
  ·rename_i b hc
   obtain⟨cv,w',h1,h2⟩:=yhm_ (ty:=o.type) (consts:=c.args.map fun | .const _=>true|_=>false) hR (fun hx=>by have:=hpm hx;cases b<;>simp[y8_,hop,hc]at this⊢) hE h;refine yu_ (cv:=cv) (w':=w') ?_ (hn _ _ h2);simp only[execOp,hop,Sem.run_bind,resolve,hc,Sem.run_pure,Result.andThen_ok,invoke];exact h1
  ·rename_i f hc
   have hpm2:∀id,pvBad C f id=false->(∀g,f=.func g->g=id)->w0.pm=true->isPur (C.calls id)=true:=fun id hb hid hx=>by
    have:=hpm hx;cases f with
    |func g=>rw[<-hid g rfl];simpa[y8_,hop,hc]using this
    |tmp t=>
     have h1:C.pv t=true:=by simpa[y8_,hop,hc]using this
     simp only[pvBad,h1,cond_true,Bool.not_eq_false']at hb;exact hb
    |_=>simp[y8_,hop,hc]at this
   obtain⟨v,h,hv⟩:=y5_ hE h;obtain⟨args,h,hargs⟩:=y4o_ hE h
   split at h
   ·rename_i id fi ca _
    cases hb:pvBad C f id with
    |true=>rw[hb]at h;cases h
    |false=>
    rw[hb]at h;simp only[cond_false]at h;have hv0:∀g,f=.func g->g=id:=fun g hg=>by
     subst hg;simp only[Act.eval]at hv;simp only[VR]at hv;obtain⟨a',b',e1,_⟩:=hv;cases e1;rfl
    simp only[VR]at hv;obtain⟨fi',ca',e1,h1,h2⟩:=hv;refine yis_ hC hR hE (hpm2 id hb hv0) (VRs.append (VRs.append h1 hargs) h2) ?_ h (fun cv w' hp=>hn cv w' ?_)
    rotate_left
    ·obtain⟨v,σ',m',k1,k2,k3,k4⟩:=hp
     refine⟨v,σ',m',?_,k2,k3,k4⟩;cases f with
     |func g=>exact k1
     |tmp t=>exact y6k_ (K:=fun v=>K v σ') k1
     |const t=>exact y6k_ (K:=fun v=>K v σ') k1
     |global t=>exact y6k_ (K:=fun v=>K v σ') k1
    simp only[execOp,hop,Sem.run_bind,resolve,hc,e1,Deferred.ofValue,Sem.run_pure,Result.andThen_ok,invoke];have ha:fi'.toArray++Array.map a.eval c.args++ca'.toArray=(fi'++List.map a.eval c.args.toList++ca').toArray:=by apply Array.ext';simp
    rw[ha]
   ·cases h
  ·cases h
 ·
  rename_i t hop;obtain⟨ti,i,d,z,ht,h⟩:=Cx.ti_spec h
  split at h
  ·refine yu_ (cv:=.map (some w.heap.size)) (w':={ w with heap:=w.heap.push (.map #[] 0),drawn:=w.drawn }) ?_ (hn _ _ ⟨_,_,mset m σ.next ⟨w.heap.size,0,0,0⟩,h,Sub.mset hR.fresh _,hR.new _ ⟨w.heap.size,0,0,0⟩ _ w.drawn rfl ⟨#[],0,by simp,rfl,fun i a b hi=>by simp at hi,MapKept.stamped_empty 0⟩,by simp only[VR];exact⟨_,y1c_ _ _,rfl⟩⟩)
   simp only[execOp,hop];rfl
  ·cases h
 ·
  rename_i t x y ok hop;obtain⟨ti,i,d,z,ht,h⟩:=Cx.ti_spec h
  split at h
  ·rename_i kt et hk
   have hd:=y6c_ (ht.tk▸hk);subst hd;obtain⟨ki,i2,d2,z2,ht2,h⟩:=Cx.ti_spec h;obtain⟨ei,i3,d3,z3,ht3,h⟩:=Cx.ti_spec h;obtain⟨v,h,hv⟩:=y5_ hE h;obtain⟨u,h,hu⟩:=y5_ hE h;cases hag:isAg ki.tk with
   | false=>
    rw[hag]at h;simp only[cond_false]at h;obtain⟨k,n,e1,e2,h'⟩:=y61_ h
    clear h
    have hd2:=y4k_ (ht2.tk▸e1);subst hd2;subst e2;simp only[VR]at hu;obtain⟨za,h8,hza⟩:=y5l_ (m:=m) ht3 h';unfold mgetZ at h8;obtain⟨es,rx,ry,q1,q2,q3,q4⟩:=ye0_ hR hv h8;have run:∀(vv:Value) (b:Bool),(ry=none/\vv=z3/\b=false\/∃j,ry=some (j,vv)/\b=true) ->
      (execOp a.eval o).run C.P w=.ok (.value (if ok then .tuple #[vv,.bool b]else vv)) w:=by
     intro vv b hb;have hf:=y2g_ (P:=C.P) ht2.und q2 w;rcases q1 with ⟨e3,e4⟩|⟨bk,cl,e3,e4⟩
     ·subst e4
      rcases hb with ⟨hy,rfl,rfl⟩|⟨j,hy,rfl⟩<;>subst hy<;>cases ok <;>
       simp[execOp,hop,Instr.lookup,underlying,ht.und,e3,hu,y18_ ht2.und,hf,ht3.run_zero]
     ·rcases hb with ⟨hy,rfl,rfl⟩|⟨j,hy,rfl⟩<;>subst hy<;>cases ok <;>
       simp[execOp,hop,Instr.lookup,underlying,ht.und,e3,hu,getObj,Sem.run,e4,y18_ ht2.und,hf,ht3.run_zero]
    have fin:∀(x:AVal) (b:Bool) (vv:Value),VR m x vv->(execOp a.eval o).run C.P w=.ok (.value (if ok then .tuple #[vv,.bool b]else vv)) w ->
      (asK (kdOf ei.tk) x fun y=>bif ok then K (.tup [(kdOf ei.tk).val y,.bool b]) σ else K ((kdOf ei.tk).val y) σ)=some r->o.wp C.P a w next Q:=by
     intro x b vv hx hrun hk;obtain⟨y,e5,hk⟩:=yg_ hk;rw[e5]at hk;cases ok with
     |true=>exact yu_ hrun (hn _ w ⟨_,σ,m,hk,Sub.refl m,hR,by simp only[if_true,VR,VRs];exact⟨[vv,.bool b],rfl,_,_,rfl,hx,_,_,rfl,rfl,rfl⟩⟩)
     |false=>exact yu_ hrun (hn _ w ⟨_,σ,m,hk,Sub.refl m,hR,hx⟩)
    rcases q4 with ⟨rfl,rfl⟩|⟨av,j,cu,rfl,rfl,q5⟩
    ·exact fin za false z3 hza (run z3 false (.inl ⟨rfl,rfl,rfl⟩)) q3
    ·exact fin av true cu q5 (run cu true (.inr ⟨j,rfl,rfl⟩)) q3
   | true=>
    rw[hag]at h;simp only[cond_true]at h;obtain⟨el2,eiK,ka,kb,e1,e2,e3',e4',e5,h'⟩:=y8f_ h
    clear h
    have hd2:=y6e_ (ht2.tk▸e1);subst hd2;obtain⟨i4,d4,z4,ht4⟩:=y3o_ e2;subst e5;have hu:=y74_ hu;obtain⟨za,h8,hza⟩:=y5l_ (m:=m) ht3 h';unfold y2b_ at h8;obtain⟨es,rx,ry,q1,q2,q3,q4⟩:=ycn_ ht2.und ht4 e3' e4' hR hv h8;have run:∀(vv:Value) (b:Bool),(ry=none/\vv=z3/\b=false\/∃j,ry=some (j,vv)/\b=true) ->
      (execOp a.eval o).run C.P w=.ok (.value (if ok then .tuple #[vv,.bool b]else vv)) w:=by
     intro vv b hb;have hf:=q2;rcases q1 with ⟨e3,e4⟩|⟨bk,cl,e3,e4⟩
     ·subst e4
      rcases hb with ⟨hy,rfl,rfl⟩|⟨j,hy,rfl⟩<;>subst hy<;>cases ok <;>
       simp[execOp,hop,Instr.lookup,underlying,ht.und,e3,hu,y2h_ ht2.und ht4 e3' e4',hf,ht3.run_zero]
     ·rcases hb with ⟨hy,rfl,rfl⟩|⟨j,hy,rfl⟩<;>subst hy<;>cases ok <;>
       simp[execOp,hop,Instr.lookup,underlying,ht.und,e3,hu,getObj,Sem.run,e4,y2h_ ht2.und ht4 e3' e4',hf,ht3.run_zero]
    have fin:∀(x:AVal) (b:Bool) (vv:Value),VR m x vv->(execOp a.eval o).run C.P w=.ok (.value (if ok then .tuple #[vv,.bool b]else vv)) w ->
      (asK (kdOf ei.tk) x fun y=>bif ok then K (.tup [(kdOf ei.tk).val y,.bool b]) σ else K ((kdOf ei.tk).val y) σ)=some r->o.wp C.P a w next Q:=by
     intro x b vv hx hrun hk;obtain⟨y,e5,hk⟩:=yg_ hk;rw[e5]at hk;cases ok with
     |true=>exact yu_ hrun (hn _ w ⟨_,σ,m,hk,Sub.refl m,hR,by simp only[if_true,VR,VRs];exact⟨[vv,.bool b],rfl,_,_,rfl,hx,_,_,rfl,rfl,rfl⟩⟩)
     |false=>exact yu_ hrun (hn _ w ⟨_,σ,m,hk,Sub.refl m,hR,hx⟩)
    rcases q4 with ⟨rfl,rfl⟩|⟨av,j,cu,rfl,rfl,q5⟩
    ·exact fin za false z3 hza (run z3 false (.inl ⟨rfl,rfl,rfl⟩)) q3
    ·exact fin av true cu q5 (run cu true (.inr ⟨j,rfl,rfl⟩)) q3
  ·cases h
 ·
  rename_i x u t ok hop;obtain⟨ti,i,d,z,ht,h⟩:=Cx.ti_spec h;obtain⟨v,h,hv⟩:=y5_ hE h;cases hif:isIf ti.tk with
  |true=>rw[hif]at h;cases h
  | false=>
   rw[hif]at h;simp only[cond_false]at h;have hni:∀ms,d≠.interface ms:=fun ms e=>by subst e;rw[ht.tk]at hif;cases hif
   have good:∀(cy:Value),a.eval x=.iface t cy->(execOp a.eval o).run C.P w=.ok (.value (if ok then .tuple #[cy,.bool true]else cy)) w:=by
    intro cy hc;simp only[execOp,hop,Instr.typeAssert,Sem.run_bind,ht.run_und,Result.andThen_ok,hc];cases d<;>first|exact absurd rfl (hni _)|(cases ok<;>simp)
   have bad:ok=true->(a.eval x=.nilIface\/∃u' cy,a.eval x=.iface u' cy/\u'≠t)->(execOp a.eval o).run C.P w=.ok (.value (.tuple #[z,.bool false])) w:=by
    rintro rfl (hc|⟨u',cy,hc,hne⟩)
    ·simp only[execOp,hop,Instr.typeAssert,Sem.run_bind,ht.run_und,Result.andThen_ok,hc]
     cases d<;>first|exact absurd rfl (hni _)|simp[ht.run_zero]
    ·simp only[execOp,hop,Instr.typeAssert,Sem.run_bind,ht.run_und,Result.andThen_ok,hc]
     cases d<;>first|exact absurd rfl (hni _)|simp[hne,ht.run_zero]
   have asr:∀{K':Option AVal->Option Rt},y2a_ t v K'=some r->(∃ay cy,K' (some ay)=some r/\a.eval x=.iface t cy/\VR m ay cy)\/(K' none=some r/\(a.eval x=.nilIface\/∃u' cy,a.eval x=.iface u' cy/\u'≠t)):=by
    intro K' hk;unfold y2a_ at hk
    split at hk
    ·simp only[VR]at hv
     obtain⟨cy,hv,hy⟩:=hv
     split at hk
     ·rename_i e;exact .inl ⟨_,cy,hk,by rw[hv,e],hy⟩
     ·rename_i e;exact .inr ⟨hk,.inr ⟨_,cy,hv,e⟩⟩
    ·simp only[VR]at hv
     exact .inr ⟨hk,.inl hv⟩
    ·cases hk
   cases ok with
   | true=>
    simp only[cond_true]at h;obtain⟨za,h8,hza⟩:=y5l_ (m:=m) ht h;unfold y34_ at h8;rcases asr h8 with ⟨ay,cy,h9,hc,hy⟩|⟨h9,hc⟩
    ·obtain⟨y,e5,hk⟩:=yg_ h9
     rw[e5]at hk;exact yu_ (good cy hc) (hn _ w ⟨_,σ,m,hk,Sub.refl m,hR,by simp only[if_true,VR,VRs];exact⟨[cy,.bool true],rfl,_,_,rfl,hy,_,_,rfl,rfl,rfl⟩⟩)
    ·obtain⟨y,e5,hk⟩:=yg_ h9
     rw[e5]at hk;exact yu_ (bad rfl hc) (hn _ w ⟨_,σ,m,hk,Sub.refl m,hR,by simp only[VR,VRs];exact⟨[z,.bool false],rfl,_,_,rfl,hza,_,_,rfl,rfl,rfl⟩⟩)
   | false=>
    simp only[cond_false]at h;rcases asr h with ⟨ay,cy,h9,hc,hy⟩|⟨h9,hc⟩
    ·obtain⟨y,e5,hk⟩:=yg_ h9
     rw[e5]at hk;exact yu_ (good cy hc) (hn _ w ⟨_,σ,m,hk,Sub.refl m,hR,hy⟩)
    ·cases h9
 ·
  rename_i t x y u hop;obtain⟨w',q1,q2⟩:=yat_ hR (pmf hpm (by simp[y8_,hop])) hE h;rw[Oper.wp,show(execOp a.eval o).run C.P w=.ok .skip w' by simp[execOp,hop,q1],Oper.upon];exact hn undef w' q2
 ·
  rename_i t x y u hop;obtain⟨w',q1,q2⟩:=yat_ hR (pmf hpm (by simp[y8_,hop])) hE h;rw[Oper.wp,show(execOp a.eval o).run C.P w=.ok .skip w' by simp[execOp,hop,q1],Oper.upon];exact hn undef w' q2
 ·cases h
set_option maxHeartbeats 1000000 in
theorem yb7_{K':AVal->Heap->Option Rt}(hp:y8_ C o=true)(h:∀v,K v σ=K' v σ):dop C e o σ K=dop C e o σ K':=by
 unfold dop;unfold y8_ at hp
 split at hp
 all_goals (rename_i hop)
 all_goals first
  |(simp only[hop,h];done)
  |(simp only[hop];congr 1;funext ti;congr 1;simp only[h];done)
  |skip
 ·simp only[hop]
  split at hp
  ·rename_i hc
   simp only[hc];unfold biK
   split<;>first|rfl|(simp only[h];done)|contradiction|(simp_all;done)
  ·rename_i hc
   simp only[hc];unfold biK
   split<;>first|rfl|(simp only[h];done)|contradiction|(simp_all;done)
  ·rename_i hc
   simp only[hc];unfold biK
   split<;>first|rfl|(simp only[h];done)|contradiction|(simp_all;done)
  ·rename_i f hc
   simp only[hc,ev]
   congr 1
   funext args
   cases hs:C.calls f with
   |none=>rfl
   |some s=>
    rw[hs]at hp;cases s with
    |eff ks g=>cases hp
    |pur ks g=>simp only[yr_,h]
  ·rename_i t hc
   simp only[hc]
   congr 1
   funext f
   congr 1
   funext args
   split
   ·rename_i id fi ca
    simp only[pvBad,hp,cond_true];cases hs:C.calls id with
    |none=>rfl
    |some s=>cases s with
     |eff ks g=>rfl
     |pur ks g=>simp only[isPur,Bool.not_true,cond_false,yr_,coeK,h]
   ·rfl
  ·cases hp
 ·cases hp
end
end
section
open Go Go.RowKit
structure After(C:Cx)(B:Nat->Prop)(w0:Base)(m:Nat->Option Pl)(a:Act)(ws:List Nat)(e':Env)(σ':Heap)(m':Nat->Option Pl)(a':Act)(w':World):Prop where
 sub:Sub m m'
 r:R B w0 m' σ' w'
 env:EnvR C m' e' a'
 defers:a'.defers=a.defers
 frame:∀t,t∉ws->a'.tmps.getD t undef=a.tmps.getD t undef
theorem y4e_(a:Act)(d:Option Tmp)(v:Value)(t:Nat):(a.put d v).tmps.getD t undef=if d=some t/\t<a.tmps.size then v else a.tmps.getD t undef:=by
 cases d with
 |none=>simp[Act.put]
 | some d=>
  simp only[Act.put,Array.getD_eq_getD_getElem?];by_cases h:d=t
  ·subst h
   by_cases hs:d<a.tmps.size
   ·simp[hs]
   ·simp[hs,Array.getElem?_eq_none (Nat.le_of_not_lt hs)]
  ·rw[Array.getElem?_setIfInBounds_ne (fun e=>h e),if_neg (by simp[h])]
theorem yba_(a:Act)(d:Option Tmp)(v:Value):(a.put d v).tmps.size=a.tmps.size:=by cases d<;>simp[Act.put]
theorem y5v_(a:Act)(d:Option Tmp)(v:Value):(a.put d v).defers=a.defers:=by cases d<;>simp[Act.put]
theorem Env.get_put(e:Env)(d:Option Tmp)(v:AVal)(t:Nat):(e.put d v).get t=if d=some t then some v else e.get t:=by
 cases d with
 |none=>simp[Env.put]
 | some d=>
  simp only[Env.put,Env.get];by_cases h:d=t
  ·subst h;simp
  ·have:Nat.beq d t=false:=by
    cases hb:Nat.beq d t with
    |false=>rfl
    |true=>exact absurd (Nat.eq_of_beq_eq_true hb) h
   simp[this,h]
theorem EnvR.put{C:Cx}{m:Nat->Option Pl}{e:Env}{a:Act}(h:EnvR C m e a){d:Option Tmp}{v:AVal}{cv:Value}(hv:VR m v cv)(hd:∀t,d=some t->t<C.n):EnvR C m (e.put d v) (a.put d cv):=by
 refine⟨fun t u ht=>?_,h.glob,by rw[yba_];exact h.size⟩;rw[Env.get_put]at ht;rw[y4e_];by_cases e1:d=some t
 ·rw[if_pos e1]at ht;cases ht
  rw[if_pos ⟨e1,by rw[h.size];exact hd t e1⟩];exact hv
 ·rw[if_neg e1]at ht
  rw[if_neg (fun x=>e1 x.1)];exact h.tmp t u ht
theorem y81_(l:List Nat)(t:Nat):inL l t=true↔t∈l:=by
 induction l with
 |nil=>simp[inL]
 | cons s l ih=>
  simp only[inL];cases hb:Nat.beq s t with
  |true=>have:=Nat.eq_of_beq_eq_true hb;simp[this]
  |false=>
   have:t≠s:=fun e=>by subst e;simp at hb
   simp[ih,this]
theorem Env.get_drop(l:List Nat)(t:Nat):∀(e:Env),t∉l->(e.drop l).get t=e.get t
 |[],_=>rfl
 | (s,v)::e,h=>by
  simp only[Env.drop];cases hb:inL l s with
  | true=>
   have hs:s∈l:=(y81_ l s).1 hb;have hne:Nat.beq s t=false:=by
    cases hb2:Nat.beq s t with
    |false=>rfl
    |true=>exact absurd (Nat.eq_of_beq_eq_true hb2▸hs) h
   simp only[cond_true,Env.get,hne,cond_false];exact Env.get_drop l t e h
  |false=>
   simp only[cond_false,Env.get];rw[Env.get_drop l t e h]
theorem Env.get_drop_in(l:List Nat)(t:Nat):∀(e:Env),t∈l->(e.drop l).get t=none
 |[],_=>rfl
 | (s,v)::e,h=>by
  simp only[Env.drop];cases hb:inL l s with
  |true=>simp only[cond_true];exact Env.get_drop_in l t e h
  | false=>
   have hne:Nat.beq s t=false:=by
    cases hb2:Nat.beq s t with
    |false=>rfl
    |true=>rw[Nat.eq_of_beq_eq_true hb2,(y81_ l t).2 h]at hb;cases hb
   simp only[cond_false,Env.get,hne];exact Env.get_drop_in l t e h
theorem Env.get_append(e e':Env)(t:Nat):Env.get (e++e') t=match e.get t with|some v=>some v|none=>e'.get t:=by
 induction e with
 |nil=>rfl
 |cons x e ih=>
  obtain⟨s,v⟩:=x;simp only[List.cons_append,Env.get];cases Nat.beq s t<;>simp[ih]
theorem y1w_{Rt:Type}{r:Rt}(e:Env):∀(l:Lv) (K:l.ty->Option Rt),e.pack l K=some r->∃x,K x=some r/\∀t v,(l.env x).get t=some v->e.get t=some v
 |[],K,h=>⟨(),h,fun t v ht=>by simp[Lv.env,Env.get]at ht⟩
 | [x],K,h=>by
  simp only[Env.pack,Env.getK]at h
  split at h
  ·rename_i u hu
   obtain⟨y,h1,h2⟩:=yg_ h;refine⟨y,h2,fun t v ht=>?_⟩;simp only[Lv.env,Env.get]at ht;cases hb:Nat.beq x.1 t with
   |true=>rw[hb]at ht;simp at ht;subst ht;rw[<-Nat.eq_of_beq_eq_true hb,h1];exact hu
   |false=>rw[hb]at ht;simp at ht
  ·cases h
 | x::y::l,K,h=>by
  simp only[Env.pack,Env.getK]at h
  split at h
  ·rename_i u hu
   obtain⟨a,h1,h2⟩:=yg_ h;obtain⟨b,h3,h4⟩:=y1w_ e (y::l) _ h2;refine⟨(a,b),h3,fun t v ht=>?_⟩;simp only[Lv.env,Env.get]at ht;cases hb:Nat.beq x.1 t with
   |true=>rw[hb]at ht;simp at ht;subst ht;rw[<-Nat.eq_of_beq_eq_true hb,h1];exact hu
   |false=>rw[hb]at ht;exact h4 t v (by simpa using ht)
  ·cases h
theorem yah_{a b:Ex}(h:exEq a b=true):a=b:=by
 cases a<;>cases b<;>simp_all [exEq]
theorem yl_{Rt:Type}{r:Rt}(e:Env)(ex:Ex):∀(js:List (Ex×Lv)) (K:JT js->Option Rt),packJ js ex e K=some r ->
  ∃y,K y=some r/\∀{Ro:Type} (e0:Env) (σ:Heap) (K2:Ex->Env->Heap->Option Ro),∃x,elimJ js y e0 σ K2=K2 ex (x++e0) σ/\∀t v,Env.get x t=some v->e.get t=some v
 |[],K,h=>by simp[packJ]at h
 | [x],K,h=>by
  simp only[packJ]at h;cases hb:exEq x.1 ex with
  |false=>rw[hb]at h;cases h
  |true=>
   rw[hb]at h;simp only[cond_true]at h;have he:x.1=ex:=yah_ hb;obtain⟨y,h1,h2⟩:=y1w_ e x.2 _ h;exact⟨y,h1,fun e0 σ K2=>⟨x.2.env y,by simp only[elimJ,he],h2⟩⟩
 | x::z::l,K,h=>by
  simp only[packJ]at h;cases hb:exEq x.1 ex with
  |false=>
   rw[hb]at h;simp only[cond_false]at h;obtain⟨y,h1,h2⟩:=yl_ e ex (z::l) _ h;refine⟨.inr y,h1,fun e0 σ K2=>?_⟩;obtain⟨q,h3,h4⟩:=h2 e0 σ K2;exact⟨q,by simp only[elimJ];exact h3,h4⟩
  |true=>
   rw[hb]at h;simp only[cond_true]at h;have he:x.1=ex:=yah_ hb;obtain⟨y,h1,h2⟩:=y1w_ e x.2 _ h;exact⟨.inl y,h1,fun e0 σ K2=>⟨x.2.env y,by simp only[elimJ,he],h2⟩⟩
theorem y5n_(os:List Oper):∀(acc:List Nat) (t:Nat),t∈dsts os acc↔(∃o∈os,o.dst=some t)\/t∈acc:=by
 induction os with
 |nil=>simp[dsts]
 | cons o os ih=>
  intro acc t;simp only[dsts]
  split
  ·rename_i d hd
   rw[ih];simp[hd];constructor
   ·rintro(h|h|h)
    ·exact .inl (.inr h)
    ·exact .inl (.inl h.symm)
    ·exact .inr h
   ·rintro((h|h)|h)
    ·exact .inr (.inl h.symm)
    ·exact .inl h
    ·exact .inr (.inr h)
  ·rename_i hd
   rw[ih];simp[hd]
theorem y9e_{C:Cx}(hC:∀f s,C.calls f=some s->SpecOk C.P C.NG f s){B:Nat->Prop}{w0:Base}{ops:Array Oper}{Rt:Type}{K:Env->Heap->Option Rt}{r:Rt}{Q:Exit->Act->World->Prop}{m0:Nat->Option Pl}{a0:Act}
  (hq:∀e' σ' m' a' w',K e' σ'=some r->After C B w0 m0 a0 (dsts ops.toList []) e' σ' m' a' w'->Q .normal a' w') :
  ∀(os:List Oper) (k:Nat) (e:Env) (σ:Heap) (m:Nat->Option Pl) (a:Act) (w:World),(w0.pm=true->yh_ C os=true)->(∀j:Nat,os[j]?=ops[k+j]?)->dops C ops.toList os e σ K=some r ->
   After C B w0 m0 a0 (dsts ops.toList []) e σ m a w->wpOps C.P ops Q (List.range' k os.length) a w
 |[],k,e,σ,m,a,w,_,_,h,hA=>by simp only[List.length_nil,List.range'_zero,wpOps];exact hq e σ m a w h hA
 | o::os,k,e,σ,m,a,w,hpm,hos,h,hA=>by
  have hpo:w0.pm=true->y8_ C o=true:=fun hx=>by
   have:=hpm hx;simp only[yh_]at this;cases hp:y8_ C o with
   |true=>rfl
   |false=>rw[hp]at this;cases this
  have hps:w0.pm=true->yh_ C os=true:=fun hx=>by
   have:=hpm hx;simp only[yh_,hpo hx]at this;exact this
  have ho:ops[k]?=some o:=by have:=hos 0;simpa using this.symm
  have hmem:o∈ops.toList:=by rw[<-Array.getElem?_toList]at ho;exact List.mem_of_getElem? ho
  have hrest:∀j:Nat,os[j]?=ops[k+1+j]?:=fun j=>by have:=hos (j+1);rw[show k+1+j=k+(j+1) by omega];simpa using this
  simp only[List.length_cons,List.range'_succ,wpOps,ho];simp only[dops]at h;cases hb:dstOk C.n o.dst with
  |false=>rw[hb]at h;cases h
  | true=>
   rw[hb]at h;simp only[cond_true]at h;have hd:∀t,o.dst=some t->t<C.n:=fun t ht=>by rw[ht]at hb;simpa[dstOk,Nat.blt_eq]using hb
   have hdin:∀t,o.dst=some t->t∈dsts ops.toList []:=fun t ht=>(y5n_ _ _ _).2 (.inl ⟨o,hmem,ht⟩);have step:∀(e1:Env) (v:AVal) (cv:Value) (σ1:Heap) (m1:Nat->Option Pl) (w1:World),(∀m',Sub m m'->EnvR C m' e1 a)->Sub m m1->R B w0 m1 σ1 w1->VR m1 v cv->dops C ops.toList os (e1.put o.dst v) σ1 K=some r ->
     wpOps C.P ops Q (List.range' (k+1) os.length) (a.put o.dst cv) w1:=fun e1 v cv σ1 m1 w1 he1 S hR1 hv hk=>
    y9e_ hC hq os (k+1) _ σ1 m1 _ w1 hps hrest hk
     ⟨hA.sub.trans S,hR1,(he1 m1 S).put hv hd,by rw[y5v_];exact hA.defers,fun t ht=>by
      rw[y4e_,if_neg (fun x=>ht (hdin t x.1))];exact hA.frame t ht⟩
   have undefVR:∀m',VR m' (.tup []) undef:=fun m'=>by simp only[VR];exact⟨[],rfl,by simp[VRs]⟩
   have run:∀(e1:Env),(∀m',Sub m m'->EnvR C m' e1 a)->dop C e1 o σ (fun v σ=>dops C ops.toList os (e1.put o.dst v) σ K)=some r ->
     o.wp C.P a w (wpOps C.P ops Q (List.range' (k+1) os.length)) Q:=fun e1 he1 hk=>
    y2q_ hC hA.r hpo (he1 m (Sub.refl m)) hk fun cv w1 ⟨v,σ1,m1,g1,g2,g3,g4⟩=>step e1 v cv σ1 m1 w1 he1 g2 g3 g4 g1
   split at h
   ·rename_i hg
    rw[if_pos (by simp[Region.wanted,hg])];exact .inl (run e (fun m' S=>hA.env.mono S) h)
   ·rename_i j want hg
    split at h
    ·rename_i oj hoj
     split at h
     ·rename_i t hdt
      split at h
      ·rename_i c hc
       have hval:=hA.env.tmp t _ hc;simp only[VR]at hval;have hin:a.tmps[t]?=some (.bool c):=by
        rw[Array.getD_eq_getD_getElem?]at hval;cases hx:a.tmps[t]? with
        |none=>rw[hx]at hval;simp[undef]at hval
        |some x=>rw[hx]at hval;simpa using hval
       have hyield:yielded ops a.tmps j=some c:=by
        rw[Array.getElem?_toList]at hoj;simp[yielded,hoj,hdt,hin]
       have hwant:Region.wanted o (yielded ops a.tmps)=(c==want):=by
        simp only[Region.wanted,hg,hyield];cases c<;>cases want<;>rfl
       have he1:∀c':Bool,c=c'->∀m',Sub m m'->EnvR C m' (e.put (some t) (.bool c')) a:=fun c' ec m' S=>by
        have hE:=hA.env.mono S;refine⟨fun s u hs=>?_,hE.glob,hE.size⟩;rw[Env.get_put]at hs;by_cases e2:some t=some s
        ·rw[if_pos e2]at hs;cases hs;cases e2;rw[hval,ec];simp[VR]
        ·rw[if_neg e2]at hs;exact hE.tmp s u hs
       rw[hwant];cases c with
       |true=>
        simp only[cond_true]at h;cases want with
        |true=>simp only[cond_true]at h;rw[if_pos (by decide)];exact .inl (run _ (he1 true rfl) h)
        |false=>simp only[cond_false]at h;rw[if_neg (by decide)];exact step _ _ _ σ m w (he1 true rfl) (Sub.refl m) hA.r (undefVR m) h
       |false=>
        simp only[cond_false]at h;cases want with
        |true=>simp only[cond_true]at h;rw[if_neg (by decide)];exact step _ _ _ σ m w (he1 false rfl) (Sub.refl m) hA.r (undefVR m) h
        |false=>simp only[cond_false]at h;rw[if_pos (by decide)];exact .inl (run _ (he1 false rfl) h)
      ·rename_i hc
       have hval:=hA.env.tmp t _ hc;simp only[VR]at hval;obtain⟨vs,hval,_⟩:=hval;have hyield:yielded ops a.tmps j=none:=by
        rw[Array.getElem?_toList]at hoj;simp only[yielded,hoj,Option.bind_some,hdt];rw[Array.getD_eq_getD_getElem?]at hval;cases hx:a.tmps[t]? with
        |none=>rfl
        |some x=>rw[hx]at hval;simp only[Option.getD_some]at hval;rw[hval]
       have hwant:Region.wanted o (yielded ops a.tmps)=false:=by
        simp only[Region.wanted,hg,hyield];rfl
       rw[hwant,if_neg (by decide)];exact step e _ _ σ m w (fun m' S=>hA.env.mono S) (Sub.refl m) hA.r (undefVR m) h
      ·cases h
     ·cases h
    ·cases h
theorem EnvR.ofDrop{C:Cx}{m m':Nat->Option Pl}{e:Env}{a a':Act}{ws:List Nat}(h:EnvR C m e a)(S:Sub m m')(hs:a'.tmps.size=C.n)(hf:∀t,t∉ws->a'.tmps.getD t undef=a.tmps.getD t undef):EnvR C m' (e.drop ws) a':=by
 refine⟨fun t v ht=>?_,(h.mono S).glob,hs⟩;by_cases hin:t∈ws
 ·rw[Env.get_drop_in _ _ _ hin]at ht;cases ht
 ·rw[Env.get_drop _ _ _ hin]at ht
  rw[hf t hin];exact VR.mono S _ _ (h.tmp t v ht)
theorem EnvR.append{C:Cx}{m:Nat->Option Pl}{x e:Env}{a:Act}(h1:∀t v,Env.get x t=some v->VR m v (a.tmps.getD t undef))(h2:EnvR C m e a):EnvR C m (x++e) a:=by
 refine⟨fun t v ht=>?_,h2.glob,h2.size⟩;rw[Env.get_append]at ht;cases hx:Env.get x t with
 |none=>rw[hx]at ht;exact h2.tmp t v ht
 |some u=>rw[hx]at ht;cases ht;exact h1 t v hx
def ExR:Exit->Ex->Prop
 | .normal,.normal=>True
 | .exit a,.exit b=>a=b
 | .ret,.ret=>True
 |_,_=>False
theorem y8u_(c:Code):∀(acc:List Nat) (t:Nat),t∈wr c acc↔t∈wr c []\/t∈acc:=by
 induction c with
 |region id ops draw=>intro acc t;simp only[wr];rw[y5n_,y5n_];simp
 |seq a b iha ihb=>intro acc t;simp only[wr];rw[iha,ihb,iha (wr b [])];simp[or_assoc]
 |cond x a b iha ihb=>intro acc t;simp only[wr];rw[iha,ihb,iha (wr b [])];simp[or_assoc]
 |block id a iha=>intro acc t;simp only[wr];exact iha acc t
 |loop a iha=>intro acc t;simp only[wr];exact iha acc t
 |scope a iha=>intro acc t;simp only[wr];exact iha acc t
 |_=>intro acc t;simp[wr]
theorem y8w_{X Y:Type}{f:X->Heap->Option ((X⊕Y)×Heap)}{x:X}{σ:Heap}{r:Y×Heap}(h:loopW f x σ=some r):∃n,loopN f n x σ=some r:=by
 unfold loopW at h
 split at h
 ·rename_i hx
  cases h;exact⟨_,hx.choose_spec.choose_spec⟩
 ·cases h
theorem y8k_{X Y:Type}{f:X->Option (X⊕Y)}{x:X}{r:Y}(h:loopP f x=some r):∃n,yq_ f n x=some r:=by
 unfold loopP at h
 split at h
 ·rename_i hx
  cases h;exact⟨_,hx.choose_spec.choose_spec⟩
 ·cases h
theorem y12_{Rt:Type}{p:Prop}{X:Option Rt}{r:Rt}(h:chk p X=some r):p/\X=some r:=by
 unfold chk at h
 split at h
 ·exact⟨‹_›,h⟩
 ·cases h
theorem y29_{Rt:Type}{p:Prop}{X:Option Rt}(h:p):chk p X=X:=by unfold chk;rw[if_pos h]
end
section
open Go Go.RowKit
def Post{Rt:Type}(C:Cx)(B:Nat->Prop)(w0:Base)(m:Nat->Option Pl)(a:Act)(ws:List Nat)(K:Ex->Env->Heap->Option Rt)(r:Rt):Exit->Act->World->Prop:=
 fun x a' w'=>∃ex e' σ' m',ExR x ex/\K ex e' σ'=some r/\After C B w0 m a ws e' σ' m' a' w'
theorem After.mono{C:Cx}{B:Nat->Prop}{w0:Base}{m m':Nat->Option Pl}{a a':Act}{ws ws':List Nat}{e':Env}{σ':Heap}{w':World}(h:After C B w0 m a ws e' σ' m' a' w')(hs:∀t,t∈ws->t∈ws'):After C B w0 m a ws' e' σ' m' a' w':=
 ⟨h.sub,h.r,h.env,h.defers,fun t ht=>h.frame t fun x=>ht (hs t x)⟩
theorem After.trans{C:Cx}{B:Nat->Prop}{w0:Base}{m m' m'':Nat->Option Pl}{a a' a'':Act}{ws ws':List Nat}{e' e'':Env}{σ' σ'':Heap}{w' w'':World}(h:After C B w0 m a ws e' σ' m' a' w')(k:After C B w0 m' a' ws' e'' σ'' m'' a'' w'')
  {ws'':List Nat} (h1:∀t,t∈ws->t∈ws'') (h2:∀t,t∈ws'->t∈ws''):After C B w0 m a ws'' e'' σ'' m'' a'' w'':=
 ⟨h.sub.trans k.sub,k.r,k.env,k.defers.trans h.defers,fun t ht=>(k.frame t fun x=>ht (h2 t x)).trans (h.frame t fun x=>ht (h1 t x))⟩
theorem y40_{Rt:Type}{C:Cx}{B:Nat->Prop}{w0:Base}{m m':Nat->Option Pl}{a a':Act}{w':World}{e e':Env}{σ':Heap}{ws:List Nat}{ex:Ex}{js:List (Ex×Lv)}{K:Ex->Env->Heap->Option Rt}{r:Rt}{mid:JT js×Heap}
  (hE:EnvR C m e a) (hp:packJ js ex e' (fun x=>some (x,σ'))=some mid) (hk:elimJ js mid.1 (e.drop ws) mid.2 K=some r) (hA:After C B w0 m a ws e' σ' m' a' w') :
  ∃e'' σ'',K ex e'' σ''=some r/\After C B w0 m a ws e'' σ'' m' a' w':=by
 obtain⟨y,h1,h2⟩:=yl_ e' ex js _ hp;cases h1;obtain⟨x,h3,h4⟩:=h2 (e.drop ws) σ' K;rw[h3]at hk;exact⟨_,σ',hk,hA.sub,hA.r,EnvR.append (fun t v ht=>hA.env.tmp t v (h4 t v ht)) (hE.ofDrop hA.sub hA.env.size hA.frame),hA.defers,hA.frame⟩
theorem y3d_{Rt:Type}{C:Cx}{B:Nat->Prop}{w0:Base}{m m':Nat->Option Pl}{a a':Act}{w':World}{e e':Env}{σ':Heap}{ws:List Nat}{ex:Ex}{js:List (Ex×Lv)}{K:Ex->Env->Heap->Option Rt}{r:Rt}{mid:JT js}
  (hE:EnvR C m e a) (hp:packJ js ex e' (fun x=>some x)=some mid) (hk:elimJ js mid (e.drop ws) σ' K=some r) (hA:After C B w0 m a ws e' σ' m' a' w') :
  ∃e'',K ex e'' σ'=some r/\After C B w0 m a ws e'' σ' m' a' w':=by
 obtain⟨y,h1,h2⟩:=yl_ e' ex js _ hp;cases h1;obtain⟨x,h3,h4⟩:=h2 (e.drop ws) σ' K;rw[h3]at hk;exact⟨_,hk,hA.sub,hA.r,EnvR.append (fun t v ht=>hA.env.tmp t v (h4 t v ht)) (hE.ofDrop hA.sub hA.env.size hA.frame),hA.defers,hA.frame⟩
def Fits(L:Lv)(js:List (Ex×Lv))(e2:Env)(ex:Ex):(L.ty⊕JT js)->Prop
 | .inl x=>ex=.normal/\∀t v,(L.env x).get t=some v->e2.get t=some v
 | .inr z=>ex≠.normal/\∀(Ro:Type) (e0:Env) (σ:Heap) (K2:Ex->Env->Heap->Option Ro),∃q,elimJ js z e0 σ K2=K2 ex (q++e0) σ/\∀t v,Env.get q t=some v->e2.get t=some v
def y4a_(C:Cx):Prop:=∀(id:Nat) (ops:Array Oper) (draw:Bool) (e:Env) (σ:Heap) {Rt:Type} (K:Env->Heap->Option Rt) (r:Rt),regK C ops draw e σ K=some r ->
  ∀(B:Nat->Prop) (w0:Base) (m:Nat->Option Pl) (w:World) (a:Act),R B w0 m σ w->(w0.pm=true->yh_ C ops.toList=true)->EnvR C m e a->(Code.region id ops draw).wp C.P (Post C B w0 m a (dsts ops.toList []) (fun ex e σ=>match ex with|.normal=>K e σ|_=>none) r) a w
def y3b_(C:Cx):Prop:=∀(ops:Array Oper) (draw:Bool) (e:Env) (σ:Heap) {Rt:Type} (K K':Env->Heap->Option Rt),yh_ C ops.toList=true->(∀e,K e σ=K' e σ)->regK C ops draw e σ K=regK C ops draw e σ K'
theorem y3i_{Rt:Type}{σ:Heap}{K K':Ex->Env->Heap->Option Rt}(h:∀ex e,K ex e σ=K' ex e σ):∀(js:List (Ex×Lv)) (y:JT js) (e0:Env),elimJ js y e0 σ K=elimJ js y e0 σ K'
 |[],y,_=>nomatch y
 |[x],y,e0=>by simp only[elimJ,h]
 |x::z::l,.inl y,e0=>by simp only[elimJ,h]
 |x::z::l,.inr y,e0=>by simp only[elimJ];exact y3i_ h (z::l) y e0
theorem ybs_{C:Cx}(hP:y3b_ C)(c:Code):∀(an:Ann) (e:Env) (σ:Heap) {Rt:Type} (K K':Ex->Env->Heap->Option Rt),pureC C c=true->(∀ex e,K ex e σ=K' ex e σ)->den C c an e σ K=den C c an e σ K':=by
 induction c with
 |region id ops draw=>
  intro an e σ Rt K K' hp h;have hel:∀(js:List (Ex×Lv)) (y:JT js) (e0:Env),elimJ js y e0 σ K=elimJ js y e0 σ K':=fun js=>y3i_ h js;simp only[pureC]at hp;simp only[den,hp,cond_true,hel]
  split
  ·rfl
  ·exact hP ops draw e σ _ _ hp (fun e=>h _ e)
 | seq x y ihx ihy=>
  intro an e σ Rt K K' hp h;simp only[pureC]at hp;cases hx:pureC C x with
  |false=>rw[hx]at hp;cases hp
  |true=>
   rw[hx]at hp;simp only[den];refine ihx _ _ _ _ _ hx (fun ex e=>?_);cases ex with
   |normal=>exact ihy _ _ _ _ _ hp h
   |exit i=>exact h _ _
   |ret=>exact h _ _
 | cond c x y ihx ihy=>
  intro an e σ Rt K K' hp h;have hel:∀(js:List (Ex×Lv)) (y:JT js) (e0:Env),elimJ js y e0 σ K=elimJ js y e0 σ K':=fun js=>y3i_ h js;simp only[pureC]at hp;cases hx:pureC C x with
  |false=>rw[hx]at hp;cases hp
  |true=>
   rw[hx]at hp;have hp':pureC C y=true:=hp;simp only[den,hx,hp',cond_true,hel]
   congr 1
   funext v
   congr 1
   funext v
   split
   ·rfl
   ·rw[ihx _ _ _ _ _ hx h,ihy _ _ _ _ _ hp' h]
 |block id x ih=>
  intro an e σ Rt K K' hp h;have hel:∀(js:List (Ex×Lv)) (y:JT js) (e0:Env),elimJ js y e0 σ K=elimJ js y e0 σ K':=fun js=>y3i_ h js;simp only[pureC]at hp;simp only[den,hp,cond_true,hel]
  split
  ·rfl
  ·exact ih _ _ _ _ _ hp (fun ex e=>h _ _)
 |loop x ih=>
  intro an e σ Rt K K' hp h;have hel:∀(js:List (Ex×Lv)) (y:JT js) (e0:Env),elimJ js y e0 σ K=elimJ js y e0 σ K':=fun js=>y3i_ h js;simp only[pureC]at hp;simp only[den,hp,cond_true,hel]
 |skip=>intro an e σ Rt K K' hp h;exact h _ _
 |label l=>intro an e σ Rt K K' hp h;exact h _ _
 |ret=>intro an e σ Rt K K' hp h;exact h _ _
 |exit id=>intro an e σ Rt K K' hp h;exact h _ _
 |_=>intros;rfl
theorem y5o_{C:Cx}(hP:y3b_ C){c:Code}{an:Ann}{e:Env}{σ:Heap}{Rt:Type}{K:Ex->Env->Option Rt}{r:Rt}(hp:pureC C c=true)(h:den C c an e σ (fun ex e _=>K ex e)=some r) :
  den C c an e σ (fun ex e σ'=>chk (σ'=σ) (K ex e))=some r:=by
 rw[<-h];exact ybs_ hP c _ _ _ _ _ hp (fun ex e=>y29_ rfl)
theorem y3g_{C:Cx}(hS:y4a_ C)(hP:y3b_ C)(c:Code):∀(an:Ann) (e:Env) (σ:Heap) {Rt:Type} (K:Ex->Env->Heap->Option Rt) (r:Rt),den C c an e σ K=some r ->
  ∀(B:Nat->Prop) (w0:Base) (m:Nat->Option Pl) (w:World) (a:Act),R B w0 m σ w->(w0.pm=true->pureC C c=true)->EnvR C m e a->c.wp C.P (Post C B w0 m a (wr c []) K r) a w:=by
 induction c with
 |skip=>
  intro an e σ Rt K r h B w0 m w a hR hpm hE;exact wp_skip ⟨.normal,e,σ,m,trivial,h,Sub.refl m,hR,hE,rfl,fun _ _=>rfl⟩
 |label l=>
  intro an e σ Rt K r h B w0 m w a hR hpm hE;exact wp_label ⟨.normal,e,σ,m,trivial,h,Sub.refl m,hR,hE,rfl,fun _ _=>rfl⟩
 |ret=>
  intro an e σ Rt K r h B w0 m w a hR hpm hE;exact wp_ret ⟨.ret,e,σ,m,trivial,h,Sub.refl m,hR,hE,rfl,fun _ _=>rfl⟩
 |exit id=>
  intro an e σ Rt K r h B w0 m w a hR hpm hE;exact wp_exit ⟨.exit id,e,σ,m,rfl,h,Sub.refl m,hR,hE,rfl,fun _ _=>rfl⟩
 |goto l=>intro an e σ Rt K r h;cases h
 |rangeFunc f ps x y=>intro an e σ Rt K r h;cases h
 |refuse s=>intro an e σ Rt K r h;cases h
 |scope x=>intro an e σ Rt K r h;cases h
 | region id ops draw=>
  intro an e σ Rt K r h B w0 m w a hR hpm hE;have out:∀{K2:Env->Heap->Option Rt} {ex':Exit} {a':Act} {w':World},Post C B w0 m a (dsts ops.toList []) (fun ex e σ=>match ex with|.normal=>K2 e σ|_=>none) r ex' a' w'->∃e' σ' m',ex'=.normal/\K2 e' σ'=some r/\After C B w0 m a (dsts ops.toList []) e' σ' m' a' w':=by
   rintro K2 ex' a' w' ⟨ex,e',σ',m',h1,h2,hA⟩;cases ex with
   |normal=>
    cases ex' with
    |normal=>exact⟨e',σ',m',rfl,h2,hA⟩
    |_=>exact h1.elim
   |exit i=>cases h2
   |ret=>cases h2
  simp only[den]at h
  split at h
  ·rename_i js x
   cases hp:yh_ C ops.toList with
   | true=>
    rw[hp]at h;simp only[cond_true]at h;cases hd:(regK C ops draw e σ fun e _=>packJ js .normal e fun a=>some a) with
    |none=>rw[hd]at h;cases h
    | some mid=>
     rw[hd]at h;have hk:regK C ops draw e σ (fun e σ'=>chk (σ'=σ) (packJ js .normal e fun a=>some a))=some mid:=by
      rw[<-hd];exact hP ops draw e σ _ _ hp (fun e=>y29_ rfl)
     refine wp_mono (hS id ops draw e σ _ _ hk B w0 m w a hR hpm hE) ?_;rintro ex' a' w' ⟨ex,e',σ',m',h1,h2,hA⟩;cases ex with
     | normal=>
      cases ex' with
      |normal=>
       obtain⟨q1,q2⟩:=y12_ h2;subst q1;obtain⟨e'',k1,k2⟩:=y3d_ hE q2 h hA;exact⟨.normal,e'',σ',m',trivial,k1,k2⟩
      |_=>exact h1.elim
     |exit i=>cases h2
     |ret=>cases h2
   | false=>
    rw[hp]at h;simp only[cond_false]at h;cases hd:(regK C ops draw e σ fun e σ=>packJ js .normal e fun a=>some (a,σ)) with
    |none=>rw[hd]at h;cases h
    | some mid=>
     rw[hd]at h;refine wp_mono (hS id ops draw e σ _ _ hd B w0 m w a hR hpm hE) ?_;rintro ex' a' w' ⟨ex,e',σ',m',h1,h2,hA⟩;cases ex with
     | normal=>
      cases ex' with
      |normal=>
       obtain⟨e'',σ'',k1,k2⟩:=y40_ hE h2 h hA;exact⟨.normal,e'',σ'',m',trivial,k1,k2⟩
      |_=>exact h1.elim
     |exit i=>cases h2
     |ret=>cases h2
  ·refine wp_mono (hS id ops draw e σ _ _ h B w0 m w a hR hpm hE) ?_
   intro ex' a' w' hq;obtain⟨e',σ',m',rfl,h2,hA⟩:=out hq;exact⟨.normal,e',σ',m',trivial,h2,hA⟩
 | seq x y ihx ihy=>
  intro an e σ Rt K r h B w0 m w a hR hpm hE;have hpmx:w0.pm=true->pureC C x=true:=fun hz=>by
   have:=hpm hz;simp only[pureC]at this;cases hx:pureC C x with|true=>rfl|false=>rw[hx]at this;cases this
  have hpmy:w0.pm=true->pureC C y=true:=fun hz=>by
   have:=hpm hz;simp only[pureC,hpmx hz]at this;exact this
  simp only[den]at h;refine wp_seq (wp_mono (ihx _ _ _ _ _ h B w0 m w a hR hpmx hE) ?_);rintro ex' a' w' ⟨ex,e',σ',m',h1,h2,hA⟩;have hin1:∀t,t∈wr x []->t∈wr (x.seq y) []:=fun t ht=>by simp only[wr];rw[y8u_];exact .inl ht
  have hin2:∀t,t∈wr y []->t∈wr (x.seq y) []:=fun t ht=>by simp only[wr];rw[y8u_];exact .inr ht
  cases ex' with
  | normal=>
   cases ex with
   |normal=>
    refine wp_mono (ihy _ _ _ _ _ h2 B w0 m' w' a' hA.r hpmy hA.env) ?_;rintro ex2 a2 w2 ⟨ex,e2,σ2,m2,k1,k2,hA2⟩;exact⟨ex,e2,σ2,m2,k1,k2,hA.trans hA2 hin1 hin2⟩
   |exit id=>exact h1.elim
   |ret=>exact h1.elim
  |exit id=>
   cases ex with
   |exit id'=>exact⟨.exit id',e',σ',m',h1,h2,hA.mono hin1⟩
   |normal=>exact h1.elim
   |ret=>exact h1.elim
  |ret=>
   cases ex with
   |ret=>exact⟨.ret,e',σ',m',h1,h2,hA.mono hin1⟩
   |normal=>exact h1.elim
   |exit id=>exact h1.elim
  |goto l=>cases ex<;>exact h1.elim
  |panic ch=>cases ex<;>exact h1.elim
  |outgrown=>cases ex<;>exact h1.elim
 | cond c x y ihx ihy=>
  intro an e σ Rt K r h B w0 m w a hR hpm hE;have hpmx:w0.pm=true->pureC C x=true:=fun hz=>by
   have:=hpm hz;simp only[pureC]at this;cases hx:pureC C x with|true=>rfl|false=>rw[hx]at this;cases this
  have hpmy:w0.pm=true->pureC C y=true:=fun hz=>by
   have:=hpm hz;simp only[pureC,hpmx hz]at this;exact this
  simp only[den]at h;obtain⟨v,h,hv⟩:=y5_ hE h;obtain⟨b,e1,h5⟩:=yg_ h;subst e1;simp only[Kd.val,VR]at hv;have hin1:∀t,t∈wr x []->t∈wr (.cond c x y) []:=fun t ht=>by simp only[wr];rw[y8u_];exact .inl ht
  have hin2:∀t,t∈wr y []->t∈wr (.cond c x y) []:=fun t ht=>by simp only[wr];rw[y8u_];exact .inr ht
  clear h
  refine wp_cond hv ?_
  split at h5
  ·rename_i js an'
   cases hp:(bif pureC C x then pureC C y else false) with
   | true=>
    rw[hp]at h5;simp only[cond_true]at h5;have hpx:pureC C x=true:=by cases hx:pureC C x with|true=>rfl|false=>rw[hx]at hp;cases hp
    have hpy:pureC C y=true:=by rw[hpx]at hp;exact hp
    cases b with
    | true=>
     simp only[cond_true]at h5;rw[if_pos rfl];cases hd:(den C x an'.fst e σ fun ex e _=>packJ js ex e fun x=>some x) with
     |none=>rw[hd]at h5;cases h5
     |some mid=>
      rw[hd]at h5;refine wp_mono (ihx _ _ _ _ _ (y5o_ hP hpx hd) B w0 m w a hR hpmx hE) ?_;rintro ex' a' w' ⟨ex,e',σ',m',h1,h2,hA⟩;obtain⟨q1,q2⟩:=y12_ h2;subst q1;obtain⟨e'',k1,k2⟩:=y3d_ hE q2 h5 (hA.mono hin1);exact⟨ex,e'',σ',m',h1,k1,k2⟩
    | false=>
     simp only[cond_false]at h5;rw[if_neg (by decide)];cases hd:(den C y an'.snd e σ fun ex e _=>packJ js ex e fun x=>some x) with
     |none=>rw[hd]at h5;cases h5
     |some mid=>
      rw[hd]at h5;refine wp_mono (ihy _ _ _ _ _ (y5o_ hP hpy hd) B w0 m w a hR hpmy hE) ?_;rintro ex' a' w' ⟨ex,e',σ',m',h1,h2,hA⟩;obtain⟨q1,q2⟩:=y12_ h2;subst q1;obtain⟨e'',k1,k2⟩:=y3d_ hE q2 h5 (hA.mono hin2);exact⟨ex,e'',σ',m',h1,k1,k2⟩
   | false=>
    rw[hp]at h5;simp only[cond_false]at h5;cases b with
    | true=>
     simp only[cond_true]at h5;rw[if_pos rfl];cases hd:(den C x an'.fst e σ fun ex e σ=>packJ js ex e fun x=>some (x,σ)) with
     |none=>rw[hd]at h5;cases h5
     |some mid=>
      rw[hd]at h5;refine wp_mono (ihx _ _ _ _ _ hd B w0 m w a hR hpmx hE) ?_;rintro ex' a' w' ⟨ex,e',σ',m',h1,h2,hA⟩;obtain⟨e'',σ'',k1,k2⟩:=y40_ hE h2 h5 (hA.mono hin1);exact⟨ex,e'',σ'',m',h1,k1,k2⟩
    | false=>
     simp only[cond_false]at h5;rw[if_neg (by decide)];cases hd:(den C y an'.snd e σ fun ex e σ=>packJ js ex e fun x=>some (x,σ)) with
     |none=>rw[hd]at h5;cases h5
     |some mid=>
      rw[hd]at h5;refine wp_mono (ihy _ _ _ _ _ hd B w0 m w a hR hpmy hE) ?_;rintro ex' a' w' ⟨ex,e',σ',m',h1,h2,hA⟩;obtain⟨e'',σ'',k1,k2⟩:=y40_ hE h2 h5 (hA.mono hin2);exact⟨ex,e'',σ'',m',h1,k1,k2⟩
  ·cases b with
   |true=>
    simp only[cond_true]at h5;rw[if_pos rfl];refine wp_mono (ihx _ _ _ _ _ h5 B w0 m w a hR hpmx hE) ?_;rintro ex' a' w' ⟨ex,e',σ',m',h1,h2,hA⟩;exact⟨ex,e',σ',m',h1,h2,hA.mono hin1⟩
   |false=>
    simp only[cond_false]at h5;rw[if_neg (by decide)];refine wp_mono (ihy _ _ _ _ _ h5 B w0 m w a hR hpmy hE) ?_;rintro ex' a' w' ⟨ex,e',σ',m',h1,h2,hA⟩;exact⟨ex,e',σ',m',h1,h2,hA.mono hin2⟩
 | block id x ih=>
  intro an e σ Rt K r h B w0 m w a hR hpm hE;simp only[den]at h;refine wp_block ?_;have out:∀{K2:Ex->Env->Heap->Option Rt} {ex':Exit} {a':Act} {w':World} {ex:Ex} {e':Env} {σ':Heap} {m':Nat->Option Pl},ExR ex' ex->K2 (mapX id ex) e' σ'=some r->After C B w0 m a (wr x []) e' σ' m' a' w' ->
    Exit.inBlock id (Post C B w0 m a (wr (.block id x) []) K2 r) ex' a' w':=fun {K2 ex' a' w' ex e' σ' m'} h1 h2 hA=>by
   cases ex' with
   | exit i=>
    cases ex with
    | exit i'=>
     simp only[ExR]at h1;subst h1;simp only[Exit.inBlock];by_cases hi:i=id
     ·subst hi
      rw[if_pos rfl];exact⟨.normal,e',σ',m',trivial,by simpa[mapX]using h2,hA⟩
     ·rw[if_neg hi]
      have hb:Nat.beq i id=false:=by
       cases hb:Nat.beq i id with
       |false=>rfl
       |true=>exact absurd (Nat.eq_of_beq_eq_true hb) hi
      exact⟨.exit i,e',σ',m',rfl,by simpa[mapX,hb]using h2,hA⟩
    |normal=>exact h1.elim
    |ret=>exact h1.elim
   |normal=>
    cases ex with
    |normal=>exact⟨.normal,e',σ',m',trivial,h2,hA⟩
    |exit i=>exact h1.elim
    |ret=>exact h1.elim
   |ret=>
    cases ex with
    |ret=>exact⟨.ret,e',σ',m',trivial,h2,hA⟩
    |exit i=>exact h1.elim
    |normal=>exact h1.elim
   |goto l=>cases ex<;>exact h1.elim
   |panic ch=>cases ex<;>exact h1.elim
   |outgrown=>cases ex<;>exact h1.elim
  split at h
  ·rename_i js an'
   cases hp:pureC C x with
   | true=>
    rw[hp]at h;simp only[cond_true]at h;cases hd:(den C x an' e σ fun ex e _=>packJ js (mapX id ex) e fun x=>some x) with
    |none=>rw[hd]at h;cases h
    |some mid=>
     rw[hd]at h;refine wp_mono (ih _ _ _ _ _ (y5o_ hP hp hd) B w0 m w a hR hpm hE) ?_;rintro ex' a' w' ⟨ex,e',σ',m',h1,h2,hA⟩;obtain⟨q1,q2⟩:=y12_ h2;subst q1;obtain⟨e'',k1,k2⟩:=y3d_ hE q2 h hA;exact out h1 k1 k2
   | false=>
    rw[hp]at h;simp only[cond_false]at h;cases hd:(den C x an' e σ fun ex e σ=>packJ js (mapX id ex) e fun x=>some (x,σ)) with
    |none=>rw[hd]at h;cases h
    |some mid=>
     rw[hd]at h;refine wp_mono (ih _ _ _ _ _ hd B w0 m w a hR hpm hE) ?_;rintro ex' a' w' ⟨ex,e',σ',m',h1,h2,hA⟩;obtain⟨e'',σ'',k1,k2⟩:=y40_ hE h2 h hA;exact out h1 k1 k2
  ·have h':den C x an e σ (fun ex e σ=>K (mapX id ex) e σ)=some r:=h
   refine wp_mono (ih _ _ _ _ _ h' B w0 m w a hR hpm hE) ?_;rintro ex' a' w' ⟨ex,e',σ',m',h1,h2,hA⟩;exact out h1 h2 hA
 | loop x ih=>
  intro an e σ Rt K r h B w0 m w a hR hpm hE;simp only[den]at h
  split at h
  ·rename_i L js an'
   obtain⟨x0,h,hx0⟩:=y1w_ e L _ h
   let f:L.ty->Heap->Option ((L.ty⊕JT js)×Heap):=fun x1 σ=>den C x an' (L.env x1++e.drop (wr x [])) σ fun ex e σ=>(match ex with
    | .normal=>e.pack L fun x=>some ((Sum.inl x:L.ty⊕JT js),σ)
    |ex=>packJ js ex e fun y=>some (Sum.inr y,σ))
   let g:Heap->L.ty->Option (L.ty⊕JT js):=fun σ x1=>den C x an' (L.env x1++e.drop (wr x [])) σ fun ex e _=>(match ex with
    | .normal=>e.pack L fun x=>some (Sum.inl x:L.ty⊕JT js)
    |ex=>packJ js ex e fun y=>some (Sum.inr y))
   let BodyOk:(L.ty->Heap->Option ((L.ty⊕JT js)×Heap))->Prop:=fun F=>∀x1 σ1 y σ2,F x1 σ1=some (y,σ2)->∀(m1:Nat->Option Pl) (a':Act) (w':World),R B w0 m1 σ1 w'->EnvR C m1 (L.env x1++e.drop (wr x [])) a' ->
    x.wp C.P (fun ex' a2 w2=>∃ex e2 m2,ExR ex' ex/\Fits L js e2 ex y/\After C B w0 m1 a' (wr x []) e2 σ2 m2 a2 w2) a' w'
   have rounds:∃(F:L.ty->Heap->Option ((L.ty⊕JT js)×Heap)) (mid:JT js×Heap) (n:Nat),BodyOk F/\loopN F n x0 σ=some mid/\elimJ js mid.1 (e.drop (wr x [])) mid.2 K=some r:=by
    cases hp:pureC C x with
    | false=>
     rw[hp]at h;simp only[cond_false]at h;have hk:(loopW f x0 σ).bind (fun r=>elimJ js r.1 (e.drop (wr x [])) r.2 K)=some r:=h;cases hl:loopW f x0 σ with
     |none=>rw[hl]at hk;cases hk
     | some mid=>
      rw[hl]at hk;obtain⟨n,hn⟩:=y8w_ hl;refine⟨f,mid,n,fun x1 σ1 y σ2 hf m1 a' w' hR1 hE1=>?_,hn,hk⟩;refine wp_mono (ih _ _ _ _ _ hf B w0 m1 w' a' hR1 hpm hE1) ?_;rintro ex' a2 w2 ⟨ex,e2,σ3,m2,h1,h2,hA2⟩;cases ex with
      |normal=>
       obtain⟨x3,h3,h4⟩:=y1w_ e2 L _ h2;cases h3;exact⟨.normal,e2,m2,h1,⟨rfl,h4⟩,hA2⟩
      |exit i=>
       obtain⟨z,h3,h4⟩:=yl_ e2 _ js _ h2;cases h3;exact⟨.exit i,e2,m2,h1,⟨by simp,fun Ro e0 σ K2=>h4 e0 σ K2⟩,hA2⟩
      |ret=>
       obtain⟨z,h3,h4⟩:=yl_ e2 _ js _ h2;cases h3;exact⟨.ret,e2,m2,h1,⟨by simp,fun Ro e0 σ K2=>h4 e0 σ K2⟩,hA2⟩
    | true=>
     rw[hp]at h;simp only[cond_true]at h;have hk:(loopP (g σ) x0).bind (fun r=>elimJ js r (e.drop (wr x [])) σ K)=some r:=h;cases hl:loopP (g σ) x0 with
     |none=>rw[hl]at hk;cases hk
     | some mid=>
      rw[hl]at hk;obtain⟨n,hn⟩:=y8k_ hl;refine⟨fun x1 σ1=>(g σ1 x1).map fun y=>(y,σ1),(mid,σ),n,fun x1 σ1 y σ2 hf m1 a' w' hR1 hE1=>?_,?_,hk⟩
      ·have hf:(g σ1 x1).map (fun y=>(y,σ1))=some (y,σ2):=hf
       have hg:g σ1 x1=some y/\σ2=σ1:=by
        cases hgx:g σ1 x1 with
        |none=>rw[hgx]at hf;cases hf
        |some y'=>rw[hgx]at hf;cases hf;exact⟨rfl,rfl⟩
       obtain⟨hg,rfl⟩:=hg;refine wp_mono (ih _ _ _ _ _ (y5o_ hP hp hg) B w0 m1 w' a' hR1 hpm hE1) ?_;rintro ex' a2 w2 ⟨ex,e2,σ3,m2,h1,h2,hA2⟩;obtain⟨q1,h5⟩:=y12_ h2
       clear h2
       subst q1;cases ex with
       |normal=>
        obtain⟨x3,h3,h4⟩:=y1w_ e2 L _ h5;cases h3;exact⟨.normal,e2,m2,h1,⟨rfl,h4⟩,hA2⟩
       |exit i=>
        obtain⟨z,h3,h4⟩:=yl_ e2 _ js _ h5;cases h3;exact⟨.exit i,e2,m2,h1,⟨by simp,fun Ro e0 σ K2=>h4 e0 σ K2⟩,hA2⟩
       |ret=>
        obtain⟨z,h3,h4⟩:=yl_ e2 _ js _ h5;cases h3;exact⟨.ret,e2,m2,h1,⟨by simp,fun Ro e0 σ K2=>h4 e0 σ K2⟩,hA2⟩
      ·clear hl hk h hx0
       induction n generalizing x0 with
       |zero=>cases hn
       | succ n ihn=>
        simp only[yq_]at hn;simp only[loopN]
        split at hn
        ·rename_i x2 hg
         rw[hg];exact ihn x2 hn
        ·rename_i y hg
         cases hn;rw[hg];rfl
        ·cases hn
   obtain⟨F,mid,n,hF,hn,hk⟩:=rounds
   let I:Nat->Act->World->Prop:=fun k a' w'=>∃x1 σ1 m1 e1,loopN F k x1 σ1=some mid/\After C B w0 m a (wr x []) e1 σ1 m1 a' w'/\∀t v,(L.env x1).get t=some v->e1.get t=some v
   have start:I n a w:=⟨x0,σ,m,e,hn,⟨Sub.refl m,hR,hE,rfl,fun _ _=>rfl⟩,hx0⟩;refine wp_loop_ghost I n start ?_;rintro k a' w' ⟨x1,σ1,m1,e1,hk1,hA1,hx1⟩;cases k with
   |zero=>cases hk1
   | succ k=>
    simp only[loopN]at hk1;have hE1:EnvR C m1 (L.env x1++e.drop (wr x [])) a':=EnvR.append (fun t v ht=>hA1.env.tmp t v (hx1 t v ht)) (hE.ofDrop hA1.sub hA1.env.size hA1.frame)
    split at hk1
    ·rename_i x2 σ2 hf
     refine wp_mono (hF x1 σ1 _ σ2 hf m1 a' w' hA1.r hE1) ?_;rintro ex' a2 w2 ⟨ex,e2,m2,h1,h2,hA2⟩;obtain⟨rfl,h4⟩:=h2;cases ex' with
     |normal=>exact⟨k,Nat.lt_succ_self k,x2,σ2,m2,e2,hk1,hA1.trans hA2 (fun _ h=>h) (fun _ h=>h),h4⟩
     |_=>exact h1.elim
    ·rename_i y σ2 hf
     cases hk1;refine wp_mono (hF x1 σ1 _ σ2 hf m1 a' w' hA1.r hE1) ?_;rintro ex' a2 w2 ⟨ex,e2,m2,h1,h2,hA2⟩;obtain⟨hne,h4⟩:=h2;have hA3:=hA1.trans hA2 (fun _ h=>h) (fun _ h=>h);obtain⟨q,h5,h6⟩:=h4 _ (e.drop (wr x [])) σ2 K;rw[h5]at hk;have hA4:After C B w0 m a (wr x []) (q++e.drop (wr x [])) σ2 m2 a2 w2:=⟨hA3.sub,hA3.r,EnvR.append (fun t v ht=>hA3.env.tmp t v (h6 t v ht)) (hE.ofDrop hA3.sub hA3.env.size hA3.frame),hA3.defers,hA3.frame⟩;cases ex with
     |normal=>exact absurd rfl hne
     |exit i=>
      cases ex' with
      |exit i'=>exact⟨.exit i,_,σ2,m2,h1,hk,hA4⟩
      |_=>exact h1.elim
     |ret=>
      cases ex' with
      |ret=>exact⟨.ret,_,σ2,m2,h1,hk,hA4⟩
      |_=>exact h1.elim
    ·cases hk1
  ·cases h
end
end Go.Proofs.YtekehmgfedmflaaGreatDoor.A
end
