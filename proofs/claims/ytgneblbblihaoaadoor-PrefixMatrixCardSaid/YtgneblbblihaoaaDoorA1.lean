/- The abstract machine: what code does to abstract values and heaps, in continuations; joins and loops by typed tuples. -/
import Derived.Test.YtgneblbblihaoaaDoorA0
import Derived.Orders
set_option linter.all false
namespace Go.Proofs.YtgneblbblihaoaaDoor.A
open Go

/-! ### Types -/
inductive TK where
  | int (k : IntKind) | bool | str | ptr (e : TypeId) | slice (e : TypeId) | strct (fs : List (Nat × TypeId)) | arr (n : Nat) (e : TypeId)
  | map (k e : TypeId) | iface (ms : Bool) | func | other
structure TI where
  tk : TK
  size : Nat
  bytes : Nat
  zero : List AVal
  cmp : Bool

/-- A constant as an abstract value. -/
def aOf : Value → Option AVal
  | .bool b => some (.bool b)
  | .int k n => some (.int k n)
  | .string s => some (.str s)
  | .pointer none => some .nilp
  | .slice none 0 0 => some .nils
  | .map none => some .nilm
  | .nilFunc => some .nilf
  | .nilIface => some .nili
  | _ => none
def aOfs : List Value → Option (List AVal)
  | [] => some []
  | v :: vs => match aOf v with
    | some a => match aOfs vs with
      | some as => some (a :: as)
      | none => none
    | none => none

def tkOf : TypeDesc → TK
  | .bool => .bool
  | .int k => .int k
  | .string => .str
  | .pointer e => .ptr e
  | .slice e => .slice e
  | .struct fs => .strct (fs.toList.map fun f => (f.offset, f.type))
  | .array n e => .arr n e
  | .map k e => .map k e
  | .interface ms => .iface (!ms.isEmpty)
  | .func _ _ _ => .func
  | _ => .other

def isAg (tk : TK) : Bool := match tk with
  | .strct _ => true
  | .arr _ _ => true
  | _ => false
def tiOf (P : Program) (t : TypeId) : Option TI :=
  match P.info? t with
  | some i => match P.underlying t with
    | some d => match i.zero with
      | some z => match aOfs z.cells.toList with
        | some cs => bif Nat.beq cs.length i.size && (isAg (tkOf d) || z.oneCell') then some ⟨tkOf d, i.size, i.bytes, cs, i.comparable⟩ else none
        | none => none
      | none => none
    | none => none
  | none => none

/-! ### Kinds, tuples, environments -/
inductive Kd where
  | I (k : IntKind) | B | S | V
  deriving DecidableEq
@[reducible] def Kd.ty : Kd → Type
  | .I _ => Int
  | .B => Bool
  | .S => ByteArray
  | .V => AVal
def Kd.val : (k : Kd) → k.ty → AVal
  | .I k, n => .int k n
  | .B, b => .bool b
  | .S, s => .str s
  | .V, v => v
@[reducible] def Tu : List Kd → Type
  | [] => Unit
  | [k] => k.ty
  | k :: k' :: ks => k.ty × Tu (k' :: ks)
def Tu.vals : (ks : List Kd) → Tu ks → List AVal
  | [], _ => []
  | [k], x => [k.val x]
  | k :: k' :: ks, x => k.val x.1 :: Tu.vals (k' :: ks) x.2

abbrev Env := List (Nat × AVal)
def Env.get : Env → Nat → Option AVal
  | [], _ => none
  | (s, v) :: e, t => bif Nat.beq s t then some v else Env.get e t
def Env.put (e : Env) (d : Option Tmp) (v : AVal) : Env := match d with
  | some t => (t, v) :: e
  | none => e
def inL : List Nat → Nat → Bool
  | [], _ => false
  | s :: l, t => bif Nat.beq s t then true else inL l t
def Env.drop : Env → List Nat → Env
  | [], _ => []
  | (s, v) :: e, l => bif inL l s then Env.drop e l else (s, v) :: Env.drop e l

def Env.only (e : Env) : List Nat → Env
  | [] => []
  | t :: l => match e.get t with
    | some v => (t, v) :: Env.only e l
    | none => Env.only e l

abbrev Lv := List (Nat × Kd)
def Lv.kds : Lv → List Kd
  | [] => []
  | x :: l => x.2 :: Lv.kds l
def Lv.tmps : Lv → List Nat
  | [] => []
  | x :: l => x.1 :: Lv.tmps l
@[reducible] def Lv.ty : Lv → Type
  | [] => Unit
  | [x] => x.2.ty
  | x :: y :: l => x.2.ty × Lv.ty (y :: l)
def Lv.env : (l : Lv) → l.ty → Env
  | [], _ => []
  | [x], v => [(x.1, x.2.val v)]
  | x :: y :: l, v => (x.1, x.2.val v.1) :: Lv.env (y :: l) v.2

section
variable {Rt : Type}
def asK : (k : Kd) → AVal → (k.ty → Option Rt) → Option Rt
  | .I k, .int k' n, K => if k = k' then K n else none
  | .I _, _, _ => none
  | .B, .bool b, K => K b
  | .B, _, _ => none
  | .S, .str s, K => K s
  | .S, _, _ => none
  | .V, v, K => K v
def Env.getK (e : Env) (t : Nat) (k : Kd) (K : k.ty → Option Rt) : Option Rt := match e.get t with
  | some v => asK k v K
  | none => none
def Env.pack (e : Env) : (l : Lv) → (l.ty → Option Rt) → Option Rt
  | [], K => K ()
  | [x], K => e.getK x.1 x.2 K
  | x :: y :: l, K => e.getK x.1 x.2 fun a => e.pack (y :: l) fun b => K (a, b)
def packs : (vs : List AVal) → (ks : List Kd) → (Tu ks → Option Rt) → Option Rt
  | [], [], K => K ()
  | [v], [k], K => asK k v K
  | v :: v' :: vs, k :: k' :: ks, K => asK k v fun a => packs (v' :: vs) (k' :: ks) fun b => K (a, b)
  | _, _, _ => none

/-! ### Operations -/
def scal (v : AVal) (X : Option Rt) : Option Rt := match v with
  | .agg _ => none
  | .tup _ => none
  | _ => X
def nilck (v : AVal) (X : Option Rt) : Option Rt := match v with
  | .ptr _ _ => X
  | .ifc _ _ => X
  | .fn (.func _) _ _ => X
  | _ => none
def fld (v : AVal) (off : Nat) (K : AVal → Option Rt) : Option Rt := match v with
  | .ptr l o => K (.ptr l (o + off))
  | _ => none
def ixA (σ : Heap) (v : AVal) (sz : Nat) (i : Int) (K : AVal → Option Rt) : Option Rt := match v with
  | .sl l off len _ => match σ.get l with
    | some (.cells _ sz' _) => if sz' = sz ∧ 0 ≤ i ∧ i < len then K (.ptr l ((off + i.toNat) * sz)) else none
    | _ => none
  | _ => none
def ixP (v : AVal) (n sz : Nat) (i : Int) (K : AVal → Option Rt) : Option Rt := match v with
  | .ptr l o => if 0 ≤ i ∧ i < n then K (.ptr l (o + i.toNat * sz)) else none
  | _ => none
def ld (σ : Heap) (a : AVal) (k : Kd) (K : k.ty → Option Rt) : Option Rt := match a with
  | .ptr l o => match σ.cell l o with
    | some v => asK k v K
    | none => none
  | _ => none
def ldG (σ : Heap) (a : AVal) (n : Nat) (K : AVal → Option Rt) : Option Rt := match a with
  | .ptr l o => match σ.get l with
    | some (.cells _ _ cs) => if o + n ≤ cs.length then K (.agg ((cs.drop o).take n)) else none
    | _ => none
  | _ => none
def stC (σ : Heap) (a : AVal) (vs : List AVal) (K : Heap → Option Rt) : Option Rt := match a with
  | .ptr l o => match σ.get l with
    | some (.cells .rw sz cs) => if o + vs.length ≤ cs.length then K (σ.set l (.cells .rw sz (cs.take o ++ vs ++ cs.drop (o + vs.length)))) else none
    | _ => none
  | _ => none
def aggK (v : AVal) (n : Nat) (K : List AVal → Option Rt) : Option Rt := match v with
  | .agg cs => if cs.length = n then K cs else none
  | _ => none
def binI (op : BinOp) (k : IntKind) (x y : Int) (K : AVal → Option Rt) : Option Rt := match op with
  | .add => K (.int k (k.wrap (x + y)))
  | .sub => K (.int k (k.wrap (x - y)))
  | .mul => K (.int k (k.wrap (x * y)))
  | .quo => if y = 0 then none else K (.int k (k.wrap (x.tdiv y)))
  | .rem => if y = 0 then none else K (.int k (x.tmod y))
  | .and => K (.int k (k.wrap (BitVec.ofInt k.bits x &&& BitVec.ofInt k.bits y).toNat))
  | .or => K (.int k (k.wrap (BitVec.ofInt k.bits x ||| BitVec.ofInt k.bits y).toNat))
  | .xor => K (.int k (k.wrap (BitVec.ofInt k.bits x ^^^ BitVec.ofInt k.bits y).toNat))
  | .andNot => K (.int k (k.wrap (BitVec.ofInt k.bits x &&& ~~~BitVec.ofInt k.bits y).toNat))
  | .eql => K (.bool (x == y))
  | .neq => K (.bool (x != y))
  | .lss => K (.bool (decide (x < y)))
  | .leq => K (.bool (decide (x ≤ y)))
  | .gtr => K (.bool (decide (x > y)))
  | .geq => K (.bool (decide (x ≥ y)))
  | _ => none
def shI (op : BinOp) (k : IntKind) (x y : Int) (K : AVal → Option Rt) : Option Rt :=
  if y < 0 then none else match op with
  | .shl => K (.int k (k.wrap (x * 2 ^ (min y.toNat k.bits))))
  | .shr => K (.int k (x.fdiv (2 ^ (min y.toNat k.bits))))
  | _ => none
/-- Equality, by types. -/
def eqP (a b : AVal) (K : Bool → Option Rt) : Option Rt := match a, b with
  | .nilp, .nilp => K true
  | .nilp, .ptr _ _ => K false
  | .ptr _ _, .nilp => K false
  | .ptr l o, .ptr l' o' => if l = l' then K (o == o') else none
  | _, _ => none
def eqS (a b : AVal) (K : Bool → Option Rt) : Option Rt := match a, b with
  | .nils, .nils => K true
  | .nils, .sl _ _ _ _ => K false
  | .sl _ _ _ _, .nils => K false
  | _, _ => none
def eqM (a b : AVal) (K : Bool → Option Rt) : Option Rt := match a, b with
  | .nilm, .nilm => K true
  | .nilm, .map _ => K false
  | .map _, .nilm => K false
  | _, _ => none
def eqF (a b : AVal) (K : Bool → Option Rt) : Option Rt := match a, b with
  | .nilf, .nilf => K true
  | .nilf, .fn _ _ _ => K false
  | .fn _ _ _, .nilf => K false
  | _, _ => none
def isConst : Operand → Bool
  | .const _ => true
  | _ => false
/-- Two strings that are not one. -/
def strNe : Option AVal → Option AVal → Bool
  | some (.str a), some (.str b) => decide (a ≠ b)
  | _, _ => false
/-- Interfaces: with nil; two of types apart; two pointers of one type. -/
def eqI (T : TypeId → Option TI) (σ : Heap) (cn : Bool) (a b : AVal) (K : Bool → Option Rt) : Option Rt := match a, b with
  | .nili, .nili => bif cn then K true else none
  | .nili, .ifc _ _ => K false
  | .ifc _ _, .nili => K false
  | .ifc t (.ptr l o), .ifc u (.ptr l' o') =>
    if t = u then match T t with
      | some ti => (match ti.tk with
        | .ptr e => (match T e with
          | some ei => bif Nat.beq ei.size 0 || !ti.cmp then none else
            if l = l' then K (o == o') else match σ.get l, σ.get l' with
              | some (.cells md _ cs), some (.cells md' _ cs') => if (md.ex = true ∧ md'.ex = true ∧ o < cs.length ∧ o' < cs'.length) ∨ (md.fr0 = true ∧ md'.fr0 = true ∧ strNe cs[o]? cs'[o']? = true) then K false else none
              | _, _ => none
          | none => none)
        | _ => none)
      | none => none
    else K false
  | _, _ => none
def lenV (v : AVal) (K : Int → Option Rt) : Option Rt := match v with
  | .sl _ _ len _ => K len
  | .nils => K 0
  | _ => none
def lenM (σ : Heap) (v : AVal) (K : Int → Option Rt) : Option Rt := match v with
  | .map l => match σ.get l with
    | some (.map es) => K es.length
    | _ => none
  | .nilm => K 0
  | _ => none
def bound (n : Int) (X : Option Rt) : Option Rt := if n ≤ 70368744177664 then X else none
def newK (σ : Heap) (sz : Nat) (cs : List AVal) (K : Nat → Heap → Option Rt) : Option Rt := K σ.next (σ.new (.cells .rw sz cs))
def rep (n : Nat) (z : List AVal) : List AVal := match n with
  | 0 => []
  | n + 1 => z ++ rep n z
def mkS (σ : Heap) (sz bytes : Nat) (z : List AVal) (len cap : Int) (K : AVal → Heap → Option Rt) : Option Rt :=
  if 0 ≤ len ∧ len ≤ cap ∧ cap * bytes ≤ 70368744177664 ∧ cap ≤ 70368744177664 then newK σ sz (rep cap.toNat z) fun l σ => K (.sl l 0 len.toNat none) σ else none
/-- The cells of a slice's elements. -/
def srcK (σ : Heap) (sz : Nat) (v : AVal) (K : List AVal → Nat → Option Rt) : Option Rt := match v with
  | .nils => K [] 0
  | .sl l off len _ => match σ.get l with
    | some (.cells _ sz' cs) => if sz' = sz ∧ (off + len) * sz ≤ cs.length then K ((cs.drop (off * sz)).take (len * sz)) len else none
    | _ => none
  | _ => none
def appC (σ : Heap) (sz bytes : Nat) (s : AVal) (xs : List AVal) (n : Nat) (K : AVal → Heap → Option Rt) : Option Rt := match s with
  | .nils => if n = 0 then K .nils σ else if n * bytes ≤ 70368744177664 ∧ n ≤ 70368744177664 then newK σ sz xs fun l σ => K (.sl l 0 n none) σ else none
  | .sl l off len c => match σ.get l with
    | some (.cells md sz' cs) =>
      if sz' = sz ∧ 0 < sz ∧ (off + len) * sz ≤ cs.length then
      if n = 0 then K s σ else
      if (len + n) * bytes ≤ 70368744177664 ∧ len + n ≤ 70368744177664 then
      match c with
      | some k =>
        if len + n ≤ k then
          (if md = .rw ∧ (off + len + n) * sz ≤ cs.length then K (.sl l off (len + n) c) (σ.set l (.cells .rw sz (cs.take ((off + len) * sz) ++ xs ++ cs.drop ((off + len + n) * sz)))) else none)
        else newK σ sz ((cs.drop (off * sz)).take (len * sz) ++ xs) fun l σ => K (.sl l 0 (len + n) none) σ
      | none =>
        if md = .rw then
        if (off + len + n) * sz ≤ cs.length then K (.sl l off (len + n) c) (σ.set l (.cells .rw sz (cs.take ((off + len) * sz) ++ xs ++ cs.drop ((off + len + n) * sz))))
        else newK (σ.kill l) sz ((cs.drop (off * sz)).take (len * sz) ++ xs) fun l σ => K (.sl l 0 (len + n) none) σ
        else none
      else none
      else none
    | _ => none
  | _ => none
def appS (σ : Heap) (sz bytes : Nat) (s x : AVal) (K : AVal → Heap → Option Rt) : Option Rt :=
  srcK σ sz x fun xs n => appC σ sz bytes s xs n K
def appB (σ : Heap) (s : AVal) (x : ByteArray) (K : AVal → Heap → Option Rt) : Option Rt :=
  if x.size ≤ 70368744177664 then appC σ 1 1 s (x.data.toList.map fun b => .int .u8 b.toNat) x.size K else none
/-- Zero elements behind a nil slice. -/
def appZ (σ : Heap) (sz bytes : Nat) (z : List AVal) (s : AVal) (n : Int) (K : AVal → Heap → Option Rt) : Option Rt := match s with
  | .nils => if n = 0 then K .nils σ else if 0 < n ∧ n * bytes ≤ 70368744177664 ∧ n ≤ 70368744177664 then newK σ sz (rep n.toNat z) fun l σ => K (.sl l 0 n.toNat none) σ else none
  | _ => none
def clipTo (mx : Option Int) (c : Option Nat) (lo : Int) : Option Nat := match mx with
  | some m => some (m.toNat - lo.toNat)
  | none => match c with
    | some k => some (k - lo.toNat)
    | none => none
def slS (σ : Heap) (sz : Nat) (v : AVal) (lo : Int) (hi mx : Option Int) (K : AVal → Option Rt) : Option Rt := match v with
  | .nils => if lo = 0 ∧ hi.getD 0 = 0 ∧ mx.getD 0 = 0 ∧ (mx.isNone || hi.isSome) = true then K .nils else none
  | .sl l off len c => match σ.get l with
    | some (.cells _ sz' _) =>
      if sz' = sz ∧ 0 ≤ lo ∧ lo ≤ hi.getD len ∧ hi.getD len ≤ mx.getD len ∧ mx.getD len ≤ len ∧ (mx.isNone || hi.isSome) = true then
        K (.sl l (off + lo.toNat) ((hi.getD len).toNat - lo.toNat) (clipTo mx c lo))
      else none
    | _ => none
  | _ => none
def slB (s : ByteArray) (lo : Int) (hi : Option Int) (K : ByteArray → Option Rt) : Option Rt :=
  if 0 ≤ lo ∧ lo ≤ hi.getD s.size ∧ hi.getD s.size ≤ s.size then K (s.extract lo.toNat (hi.getD s.size).toNat) else none
def ixB (s : ByteArray) (i : Int) (K : Int → Option Rt) : Option Rt :=
  if 0 ≤ i then match s[i.toNat]? with
    | some b => K b.toNat
    | none => none
  else none
def agS (v : AVal) (off : Nat) (k : Kd) (K : k.ty → Option Rt) : Option Rt := match v with
  | .agg cs => match cs[off]? with
    | some x => asK k x K
    | none => none
  | _ => none
def agG (v : AVal) (off n : Nat) (K : AVal → Option Rt) : Option Rt := match v with
  | .agg cs => if off + n ≤ cs.length then K (.agg ((cs.drop off).take n)) else none
  | _ => none
def tupK (v : AVal) (i : Nat) (K : AVal → Option Rt) : Option Rt := match v with
  | .tup vs => match vs[i]? with
    | some x => K x
    | none => none
  | _ => none
end

/-! ### Calls -/
inductive Spec where
  | eff (ks : List Kd) (g : List AVal → Heap → Option (Tu ks × Heap))
  | pur (ks : List Kd) (g : List AVal → Heap → Option (Tu ks))
def retV (ks : List Kd) (x : Tu ks) : AVal := match ks, x with
  | [k], x => k.val x
  | ks, x => .tup (Tu.vals ks x)
def doCall {Rt : Type} (s : Option Spec) (args : List AVal) (σ : Heap) (K : AVal → Heap → Option Rt) : Option Rt := match s with
  | some (.eff ks g) => (g args σ).bind fun r => K (retV ks r.1) r.2
  | some (.pur ks g) => (g args σ).bind fun x => K (retV ks x) σ
  | none => none
def isPur : Option Spec → Bool
  | some (.pur _ _) => true
  | _ => false

def noSpec : FuncId → Option Spec := fun _ => none
def tab (n : FuncId) (W : Spec) (rest : FuncId → Option Spec) : FuncId → Option Spec := fun f => bif Nat.beq f n then some W else rest f

structure Cx where
  P : Program
  NG : Nat
  n : Nat
  calls : FuncId → Option Spec

section
variable {Rt : Type} (C : Cx)
def Cx.ti (t : TypeId) (K : TI → Option Rt) : Option Rt := match tiOf C.P t with
  | some i => K i
  | none => none
def ev (e : Env) (x : Operand) (K : AVal → Option Rt) : Option Rt := match x with
  | .tmp t => match e.get t with
    | some v => K v
    | none => none
  | .const v => match aOf v with
    | some a => K a
    | none => none
  | .global g => bif Nat.blt g C.NG then K (.ptr g 0) else none
  | .func f => K (.fn (.func f) [] [])
def evs (e : Env) (xs : List Operand) (K : List AVal → Option Rt) : Option Rt := match xs with
  | [] => K []
  | x :: xs => ev C e x fun a => evs e xs fun as => K (a :: as)
/-- A value of a type, its kind told. -/
def kdOf (tk : TK) : Kd := match tk with
  | .int k => .I k
  | .bool => .B
  | .str => .S
  | _ => .V
/-- The cells of a value of a type. -/
def cellsK (i : TI) (v : AVal) (K : List AVal → Option Rt) : Option Rt :=
  bif isAg i.tk then aggK v i.size K else bif Nat.beq i.size 1 then scal v (K [v]) else none
/-- A part of an aggregate. -/
def partK (i : TI) (v : AVal) (off : Nat) (K : AVal → Option Rt) : Option Rt :=
  bif isAg i.tk then agG v off i.size K else agS v off (kdOf i.tk) fun x => K ((kdOf i.tk).val x)
def loadK (i : TI) (σ : Heap) (a : AVal) (K : AVal → Option Rt) : Option Rt :=
  bif isAg i.tk then ldG σ a i.size K else ld σ a (kdOf i.tk) fun x => K ((kdOf i.tk).val x)
def fillK (place : Nat → Option (Nat × TypeId)) (e : Env) (cs : List AVal) (ps : List (Nat × Operand)) (K : List AVal → Option Rt) : Option Rt := match ps with
  | [] => K cs
  | (i, x) :: ps => match place i with
    | some (off, t) => C.ti t fun ti => ev C e x fun v => cellsK ti v fun vs =>
        if off + ti.size ≤ cs.length then fillK place e (cs.take off ++ vs ++ cs.drop (off + ti.size)) ps K else none
    | none => none
def allTi (fs : List (Nat × TypeId)) (X : Option Rt) : Option Rt := match fs with
  | [] => X
  | f :: fs => C.ti f.2 fun _ => allTi fs X
def intK (v : AVal) (K : Int → Option Rt) : Option Rt := match v with
  | .int _ n => K n
  | _ => none
def optK (e : Env) (x : Option Operand) (K : Option Int → Option Rt) : Option Rt := match x with
  | some x => ev C e x fun v => intK v fun n => K (some n)
  | none => K none
/-! ### Maps, by numbers -/
/-- Where a key stands. -/
def mfind (k : IntKind) (n : Int) : List (AVal × AVal) → Nat → Option (Option Nat)
  | [], _ => some none
  | (.int k' m, _) :: es, i => if k' = k then (if n = m then some (some i) else mfind k n es (i + 1)) else none
  | _ :: _, _ => none
def mgetK (σ : Heap) (v : AVal) (k : IntKind) (n : Int) (K : Option AVal → Option Rt) : Option Rt := match v with
  | .nilm => K none
  | .map l => match σ.get l with
    | some (.map es) => match mfind k n es 0 with
      | some (some j) => match es[j]? with
        | some x => K (some x.2)
        | none => none
      | some none => K none
      | none => none
    | _ => none
  | _ => none
def mgetZ (σ : Heap) (v : AVal) (k : IntKind) (n : Int) (z : AVal) (K : AVal → Bool → Option Rt) : Option Rt := mgetK σ v k n fun r => match r with
  | some x => K x true
  | none => K z false
def mputK (σ : Heap) (v : AVal) (k : IntKind) (n : Int) (x : AVal) (K : Heap → Option Rt) : Option Rt := match v with
  | .map l => match σ.get l with
    | some (.map es) => match mfind k n es 0 with
      | some (some j) => K (σ.set l (.map (es.set j (.int k n, x))))
      | some none => K (σ.set l (.map (es ++ [(.int k n, x)])))
      | none => none
    | _ => none
  | _ => none
def mdelK (σ : Heap) (v : AVal) (k : IntKind) (n : Int) (K : Heap → Option Rt) : Option Rt := match v with
  | .nilm => K σ
  | .map l => match σ.get l with
    | some (.map es) => match mfind k n es 0 with
      | some (some j) => K (σ.set l (.map (es.eraseIdx j)))
      | some none => K (σ.set l (.map es))
      | none => none
    | _ => none
  | _ => none
def keyK (tk : TK) (v : AVal) (K : IntKind → Int → Option Rt) : Option Rt := match tk, v with
  | .int k', .int k n => if k' = k then K k n else none
  | _, _ => none
def clearK (σ : Heap) (sz : Nat) (z : List AVal) (v : AVal) (K : Heap → Option Rt) : Option Rt := match v with
  | .nils => K σ
  | .sl l off len _ => if len = 0 then K σ else match σ.get l with
    | some (.cells _ sz' _) => if sz' = sz then stC σ (.ptr l (off * sz)) (rep len z) K else none
    | _ => none
  | _ => none
def capV (v : AVal) (K : Int → Option Rt) : Option Rt := match v with
  | .nils => K 0
  | .sl _ _ _ (some k) => K k
  | _ => none
def zeroK (i : TI) (K : AVal → Option Rt) : Option Rt := bif isAg i.tk then none else match i.zero with
  | [z] => K z
  | _ => none
def biK (e : Env) (b : Builtin) (ts : List TypeId) (args : List Operand) (σ : Heap) (K : AVal → Heap → Option Rt) : Option Rt := match b, ts, args with
  | .len, [t], [x] => C.ti t fun ti => ev C e x fun v => (match ti.tk with
    | .slice _ => lenV v fun n => K (.int .i64 n) σ
    | .str => asK .S v fun s => K (.int .i64 s.size) σ
    | .map _ _ => lenM σ v fun n => K (.int .i64 n) σ
    | _ => none)
  | .append, [t, u], [x, y] => C.ti t fun ti => ev C e x fun s => ev C e y fun v => (match ti.tk with
    | .slice el => C.ti el fun ei => C.ti u fun ui => (match ui.tk with
      | .slice _ => appS σ ei.size ei.bytes s v K
      | .str => bif Nat.beq ei.size 1 && Nat.beq ei.bytes 1 then asK .S v fun b => appB σ s b K else none
      | .int _ => asK (.I .i64) v fun n => appZ σ ei.size ei.bytes ei.zero s n K
      | _ => none)
    | _ => none)
  | .clear, [t], [x] => C.ti t fun ti => (match ti.tk with
    | .slice el => C.ti el fun ei => ev C e x fun v => clearK σ ei.size ei.zero v fun σ => K (.tup []) σ
    | _ => none)
  | .cap, [t], [x] => C.ti t fun ti => (match ti.tk with
    | .slice _ => ev C e x fun v => capV v fun n => K (.int .i64 n) σ
    | _ => none)
  | .delete, [t, _], [x, y] => C.ti t fun ti => (match ti.tk with
    | .map kt _ => C.ti kt fun ki => ev C e x fun v => ev C e y fun i => keyK ki.tk i fun k n => mdelK σ v k n fun σ => K (.tup []) σ
    | _ => none)
  | .max, _, [x, y] => ev C e x fun a => ev C e y fun b => (match a, b with
    | .int k a, .int _ b => K (.int k (if b > a then b else a)) σ
    | _, _ => none)
  | .min, _, [x, y] => ev C e x fun a => ev C e y fun b => (match a, b with
    | .int k a, .int _ b => K (.int k (if b < a then b else a)) σ
    | _, _ => none)
  | _, _, _ => none
def binK (op : BinOp) (ti : TI) (σ : Heap) (cn : Bool) (a b : AVal) (K : AVal → Option Rt) : Option Rt := match ti.tk with
  | .int _ => (match a, b with
    | .int k x, .int k' y => (match op with
      | .shl => shI .shl k x y K
      | .shr => shI .shr k x y K
      | op => if k = k' then binI op k x y K else none)
    | _, _ => none)
  | .str => (match a, b, op with
    | .str x, .str y, .eql => K (.bool (x.toList == y.toList))
    | .str x, .str y, .neq => K (.bool !(x.toList == y.toList))
    | _, _, _ => none)
  | .bool => (match a, b, op with
    | .bool x, .bool y, .eql => K (.bool (x == y))
    | .bool x, .bool y, .neq => K (.bool !(x == y))
    | _, _, _ => none)
  | .ptr el => C.ti el fun ei => bif Nat.beq ei.size 0 then none else (match op with
    | .eql => eqP a b fun r => K (.bool r)
    | .neq => eqP a b fun r => K (.bool !r)
    | _ => none)
  | .slice _ => (match op with
    | .eql => eqS a b fun r => K (.bool r)
    | .neq => eqS a b fun r => K (.bool !r)
    | _ => none)
  | .map _ _ => (match op with
    | .eql => eqM a b fun r => K (.bool r)
    | .neq => eqM a b fun r => K (.bool !r)
    | _ => none)
  | .func => (match op with
    | .eql => eqF a b fun r => K (.bool r)
    | .neq => eqF a b fun r => K (.bool !r)
    | _ => none)
  | .iface _ => (match op with
    | .eql => eqI (tiOf C.P) σ cn a b fun r => K (.bool r)
    | .neq => eqI (tiOf C.P) σ cn a b fun r => K (.bool !r)
    | _ => none)
  | _ => none
/-- What a function value hands back, by its type. -/
def coeK (t : TypeId) (v : AVal) (K : AVal → Option Rt) : Option Rt := match tiOf C.P t with
  | some ti => bif isAg ti.tk then K v else asK (kdOf ti.tk) v fun x => K ((kdOf ti.tk).val x)
  | none => K v
/-- Which of two answers of `x.(T)`. -/
def assertK (t : TypeId) (v : AVal) (K : Option AVal → Option Rt) : Option Rt := match v with
  | .ifc u a => if u = t then K (some a) else K none
  | .nili => K none
  | _ => none
def assertZ (t : TypeId) (v z : AVal) (K : AVal → Bool → Option Rt) : Option Rt := assertK t v fun r => match r with
  | some x => K x true
  | none => K z false
def isIf (tk : TK) : Bool := match tk with
  | .iface _ => true
  | _ => false
def mupK (e : Env) (t : TypeId) (x i y : Operand) (σ : Heap) (K : AVal → Heap → Option Rt) : Option Rt := C.ti t fun ti => (match ti.tk with
  | .map kt _ => C.ti kt fun ki => ev C e x fun v => ev C e i fun i => ev C e y fun y => keyK ki.tk i fun k n => mputK σ v k n y fun σ => K (.tup []) σ
  | _ => none)
def dop (e : Env) (o : Oper) (σ : Heap) (K : AVal → Heap → Option Rt) : Option Rt := match o.op with
  | .move x => ev C e x fun v => K v σ
  | .assign x => ev C e x fun v => K v σ
  | .pick c a b => ev C e c fun c => asK .B c fun c => cond c (ev C e a fun v => K v σ) (ev C e b fun v => K v σ)
  | .alloc t => C.ti t fun ti => newK σ ti.size ti.zero fun l σ => K (.ptr l 0) σ
  | .box t x => C.ti t fun ti => ev C e x fun v => cellsK ti v fun vs => newK σ ti.size vs fun l σ => K (.ptr l 0) σ
  | .build t ps => C.ti t fun ti => (match ti.tk with
    | .strct fs => allTi C fs (fillK C (fs[·]?) e ti.zero ps.toList fun cs => K (.agg cs) σ)
    | .arr _ el => C.ti el fun ei => fillK C (fun i => some (i * ei.size, el)) e ti.zero ps.toList fun cs => K (.agg cs) σ
    | _ => none)
  | .buildSlice t len ps => C.ti t fun ti => (match ti.tk with
    | .slice el => C.ti el fun ei => bif Nat.ble (len * ei.size) 16777216 then fillK C (fun i => some (i * ei.size, el)) e (rep len ei.zero) ps.toList fun cs => newK σ ei.size cs fun l σ => K (.sl l 0 len none) σ else none
    | _ => none)
  | .load t a => C.ti t fun ti => ev C e a fun a => loadK ti σ a fun v => K v σ
  | .store t a x => C.ti t fun ti => ev C e a fun a => ev C e x fun v => cellsK ti v fun vs => stC σ a vs fun σ => K (.tup []) σ
  | .nilCheck x => ev C e x fun v => nilck v (K v σ)
  | .binOp op t x y _ => C.ti t fun ti => ev C e x fun a => ev C e y fun b => binK C op ti σ (isConst x || isConst y) a b fun v => K v σ
  | .unOp op _ x => ev C e x fun v => (match op, v with
    | .neg, .int k n => K (.int k (k.wrap (0 - n))) σ
    | .not, .bool b => K (.bool !b) σ
    | _, _ => none)
  | .convert s t x => C.ti s fun _ => C.ti t fun ti => ev C e x fun v => (match ti.tk, v with
    | .int k, .int _ n => K (.int k (k.wrap n)) σ
    | _, _ => none)
  | .makeInterface t x => C.ti t fun ti => ev C e x fun v => (match ti.tk with
    | .iface _ => none
    | _ => K (.ifc t v) σ)
  | .makeFunc f fi ca => evs C e fi.toList fun a => evs C e ca.toList fun b => K (.fn f a b) σ
  | .makeSlice t l c => C.ti t fun ti => (match ti.tk with
    | .slice el => C.ti el fun ei => ev C e l fun l => ev C e c fun c => intK l fun l => intK c fun c => mkS σ ei.size ei.bytes ei.zero l c K
    | _ => none)
  | .slice t x lo hi mx => C.ti t fun ti => ev C e x fun v => optK C e lo fun lo => optK C e hi fun hi => optK C e mx fun mx => (match ti.tk with
    | .slice el => C.ti el fun ei => slS σ ei.size v (lo.getD 0) hi mx fun v => K v σ
    | .str => (match mx with
      | none => asK .S v fun s => slB s (lo.getD 0) hi fun s => K (.str s) σ
      | some _ => none)
    | _ => none)
  | .fieldAddr t x f => C.ti t fun ti => (match ti.tk with
    | .strct fs => (match fs[f]? with
      | some (off, u) => C.ti u fun ui => bif Nat.beq ui.size 0 then none else ev C e x fun v => fld v off fun a => K a σ
      | none => none)
    | _ => none)
  | .field t x f => C.ti t fun ti => (match ti.tk with
    | .strct fs => (match fs[f]? with
      | some (off, u) => C.ti u fun ui => ev C e x fun v => partK ui v off fun v => K v σ
      | none => none)
    | _ => none)
  | .indexAddr t x i => C.ti t fun ti => ev C e x fun v => ev C e i fun i => intK i fun i => (match ti.tk with
    | .slice el => C.ti el fun ei => ixA σ v ei.size i fun a => K a σ
    | .arr n el => C.ti el fun ei => ixP v n ei.size i fun a => K a σ
    | _ => none)
  | .index t x i => C.ti t fun ti => ev C e x fun v => ev C e i fun i => intK i fun i => (match ti.tk with
    | .str => asK .S v fun s => ixB s i fun b => K (.int .u8 b) σ
    | _ => none)
  | .extract x i => ev C e x fun v => tupK v i fun v => K v σ
  | .call c => (match c.callee with
    | .builtin b => biK C e b c.argTypes.toList c.args.toList σ K
    | .value fo => ev C e fo fun f => evs C e c.args.toList fun args => (match f with
      | .fn (.func id) fi ca => doCall (C.calls id) (fi ++ args ++ ca) σ (match fo with
        | .func _ => K
        | _ => fun v σ => coeK C o.type v fun v => K v σ)
      | _ => none)
    | .invoke _ _ => none)
  | .makeMap t none => C.ti t fun ti => (match ti.tk with
    | .map _ _ => K (.map σ.next) (σ.new (.map []))
    | _ => none)
  | .lookup t x i ok => C.ti t fun ti => (match ti.tk with
    | .map kt et => C.ti kt fun ki => C.ti et fun ei => ev C e x fun v => ev C e i fun i => keyK ki.tk i fun k n => zeroK ei fun z => mgetZ σ v k n z fun x b => asK (kdOf ei.tk) x fun y =>
      bif ok then K (.tup [(kdOf ei.tk).val y, .bool b]) σ else K ((kdOf ei.tk).val y) σ
    | _ => none)
  | .typeAssert x _ t ok => C.ti t fun ti => ev C e x fun v => bif isIf ti.tk then none else
      bif ok then zeroK ti fun z => assertZ t v z fun x b => asK (kdOf ti.tk) x fun y => K (.tup [(kdOf ti.tk).val y, .bool b]) σ
      else assertK t v fun r => (match r with
        | some x => asK (kdOf ti.tk) x fun y => K ((kdOf ti.tk).val y) σ
        | none => none)
  | .mapUpdate t x i y => mupK C e t x i y σ K
  | .insert t x i y => mupK C e t x i y σ K
  | _ => none

def dstOk (n : Nat) (d : Option Tmp) : Bool := match d with
  | some t => Nat.blt t n
  | none => true
/-- Operations one by one; those behind a guard on one way alone. -/
def dops (all : List Oper) : List Oper → Env → Heap → (Env → Heap → Option Rt) → Option Rt
  | [], e, σ, K => K e σ
  | o :: os, e, σ, K =>
    let here (e : Env) : Option Rt := dop C e o σ fun v σ => dops all os (e.put o.dst v) σ K
    bif dstOk C.n o.dst then
    (match o.guard with
    | none => here e
    | some (j, want) => (match all[j]? with
      | some oj => (match oj.dst with
        | some t => (match e.get t with
          | some (.bool c) => cond c
              (bif want then here (e.put (some t) (.bool true)) else dops all os ((e.put (some t) (.bool true)).put o.dst (.tup [])) σ K)
              (bif want then dops all os ((e.put (some t) (.bool false)).put o.dst (.tup [])) σ K else here (e.put (some t) (.bool false)))
          | some (.tup []) => dops all os (e.put o.dst (.tup [])) σ K
          | _ => none)
        | none => none)
      | none => none))
    else none
end

/-! ### Operations that leave the heap alone; orders that are left open -/
def pureOp (calls : FuncId → Option Spec) (o : Oper) : Bool := match o.op with
  | .move _ | .assign _ | .pick _ _ _ | .build _ _ | .load _ _ | .nilCheck _ | .binOp _ _ _ _ _ | .unOp _ _ _ | .convert _ _ _ | .makeInterface _ _ | .makeFunc _ _ _ | .slice _ _ _ _ _ | .fieldAddr _ _ _
  | .field _ _ _ | .indexAddr _ _ _ | .index _ _ _ | .extract _ _ => true
  | .call c => (match c.callee with
    | .builtin .len => true
    | .builtin .max => true
    | .builtin .min => true
    | .value (.func f) => isPur (calls f)
    | _ => false)
  | _ => false
def pureOps (calls : FuncId → Option Spec) : List Oper → Bool
  | [] => true
  | o :: os => bif pureOp calls o then pureOps calls os else false
def allocOp (o : Oper) : Bool := match o.op with
  | .alloc _ | .box _ _ | .buildSlice _ _ _ | .makeSlice _ _ _ => true
  | _ => false
/-- Does it look at the heap? -/
def readsOp (C : Cx) (o : Oper) : Bool := match o.op with
  | .load _ _ | .slice _ _ _ _ _ | .indexAddr _ _ _ => true
  | .binOp _ t _ _ _ => (match tiOf C.P t with
    | some ti => (match ti.tk with
      | .iface _ => true
      | _ => false)
    | none => true)
  | .call c => (match c.callee with
    | .builtin .len => (match c.argTypes.toList with
      | [t] => (match tiOf C.P t with
        | some ti => (match ti.tk with
          | .map _ _ => true
          | _ => false)
        | none => true)
      | _ => true)
    | .builtin .max => false
    | .builtin .min => false
    | _ => true)
  | _ => false
/-- The operations that surely come ahead of each, as bits. -/
def maskOf (acc : List Nat) : List Edge → Nat
  | [] => 0
  | x :: es => (bif Region.binds .any x then Nat.lor (Nat.lor (Nat.pow 2 x.on) (acc.getD (acc.length - 1 - x.on) 0)) 0 else 0).lor (maskOf acc es)
def masks : List Oper → List Nat → List Nat
  | [], acc => acc.reverse
  | o :: os, acc => masks os (maskOf acc o.after.toList :: acc)
def ahead (ms : List Nat) (i j : Nat) : Bool := Nat.testBit (ms.getD j 0) i
def onB (o : Oper) (i : Nat) : Bool := o.after.toList.any fun x => Region.binds .any x && Nat.beq x.on i
/-- Of two operations the later one waits for the earlier one, or they are apart. -/
def lexOk (ops : Array Oper) (x : Oper) (i : Nat) : List Oper → Bool
  | [] => true
  | y :: ys => bif onB y i || x.apart ops y then lexOk ops x i ys else false
def lexAll (ops : Array Oper) : List Oper → Nat → Bool
  | [], _ => true
  | x :: xs, i => bif lexOk ops x i xs && (x.after.toList.all fun e => !Region.binds .any e || Nat.blt e.on i) then lexAll ops xs (i + 1) else false
/-- What changes the heap comes in its order; what makes an object that stands ahead of it comes ahead of it. -/
def chainOk (calls : FuncId → Option Spec) (ms : List Nat) : List Oper → Nat → List Nat → Bool
  | [], _, _ => true
  | o :: os, i, ns => bif pureOp calls o then chainOk calls ms os (i + 1) ns else
      bif allocOp o then chainOk calls ms os (i + 1) (i :: ns) else
      bif ns.all (fun j => ahead ms j i) then chainOk calls ms os (i + 1) [i] else false
def dstNew : List Oper → List Nat → Bool
  | [], _ => true
  | o :: os, l => match o.dst with
    | some t => bif inL l t then false else dstNew os (t :: l)
    | none => dstNew os l
def drawOk (calls : FuncId → Option Spec) (ops : Array Oper) : Bool :=
  Region.noSelect ops && dstNew ops.toList [] && lexAll ops ops.toList 0 && chainOk calls (masks ops.toList []) ops.toList 0 []
def opTmps (o : Oper) : List Nat := o.op.operands.toList.filterMap fun
  | .tmp t => some t
  | _ => none
structure Pend where
  i : Nat
  e : Env
  o : Oper
  v : AVal
open Classical in
noncomputable def chk {Rt : Type} (p : Prop) (X : Option Rt) : Option Rt := if p then X else none
section
variable {Rt : Type} (C : Cx)
noncomputable def rechk (ms : List Nat) (k : Nat) (σ : Heap) : List Pend → Option Rt → Option Rt
  | [], X => X
  | p :: ps, X => bif ahead ms p.i k then rechk ms k σ ps X else dop C p.e p.o σ fun v _ => chk (v = p.v) (rechk ms k σ ps X)
noncomputable def backs (ms : List Nat) (k : Nat) (e : Env) (o : Oper) (v : AVal) : List (Nat × Heap) → Option Rt → Option Rt
  | [], X => X
  | h :: hs, X => bif ahead ms h.1 k then backs ms k e o v hs X else dop C e o h.2 fun v' _ => chk (v' = v) (backs ms k e o v hs X)
/-- Operations whose order is open: as they stand; what looks at the heap sees the same whenever it comes. -/
noncomputable def ddops (all : List Oper) (ms : List Nat) : List Oper → Nat → Env → Heap → Heap → List Pend → List (Nat × Heap) → (Env → Heap → Option Rt) → Option Rt
  | [], _, e, _, σ, _, _, K => K e σ
  | o :: os, k, e, H, σ, ps, hs, K =>
    let here (e : Env) : Option Rt :=
      bif pureOp C.calls o then
        dop C (e.only (opTmps o)) o H fun v _ => bif readsOp C o then backs C ms k (e.only (opTmps o)) o v hs (ddops all ms os (k + 1) (e.put o.dst v) H σ (⟨k, e.only (opTmps o), o, v⟩ :: ps) hs K)
          else ddops all ms os (k + 1) (e.put o.dst v) H σ ps hs K
      else bif allocOp o then dop C (e.only (opTmps o)) o σ fun v σ => ddops all ms os (k + 1) (e.put o.dst v) H σ ps hs K
      else dop C (e.only (opTmps o)) o σ fun v σ => rechk C ms k σ ps (ddops all ms os (k + 1) (e.put o.dst v) σ σ ps ((k, H) :: hs) K)
    bif dstOk C.n o.dst then
    (match o.guard with
    | none => here e
    | some (j, want) => (match all[j]? with
      | some oj => (match oj.dst with
        | some t => (match e.get t with
          | some (.bool c) => cond c
              (bif want then here (e.put (some t) (.bool true)) else ddops all ms os (k + 1) ((e.put (some t) (.bool true)).put o.dst (.tup [])) H σ ps hs K)
              (bif want then ddops all ms os (k + 1) ((e.put (some t) (.bool false)).put o.dst (.tup [])) H σ ps hs K else here (e.put (some t) (.bool false)))
          | some (.tup []) => ddops all ms os (k + 1) (e.put o.dst (.tup [])) H σ ps hs K
          | _ => none)
        | none => none)
      | none => none))
    else none
/-- A region's operations. -/
noncomputable def regK (ops : Array Oper) (draw : Bool) (e : Env) (σ : Heap) (K : Env → Heap → Option Rt) : Option Rt :=
  bif draw then bif drawOk C.calls ops then ddops C ops.toList (masks ops.toList []) ops.toList 0 e σ σ [] [] K else none
  else dops C ops.toList ops.toList e σ K
end

/-! ### Code -/
inductive Ex where
  | normal | exit (id : Nat) | ret
  deriving DecidableEq
@[reducible] def JT : List (Ex × Lv) → Type
  | [] => Empty
  | [x] => x.2.ty
  | x :: y :: l => x.2.ty ⊕ JT (y :: l)
def exEq : Ex → Ex → Bool
  | .normal, .normal => true
  | .exit a, .exit b => Nat.beq a b
  | .ret, .ret => true
  | _, _ => false
def packJ {Rt : Type} : (js : List (Ex × Lv)) → Ex → Env → (JT js → Option Rt) → Option Rt
  | [], _, _, _ => none
  | [x], ex, e, K => bif exEq x.1 ex then e.pack x.2 K else none
  | x :: y :: l, ex, e, K => bif exEq x.1 ex then e.pack x.2 (fun a => K (.inl a)) else packJ (y :: l) ex e (fun a => K (.inr a))
def elimJ {Rt : Type} : (js : List (Ex × Lv)) → JT js → Env → Heap → (Ex → Env → Heap → Option Rt) → Option Rt
  | [x], a, e, σ, K => K x.1 (x.2.env a ++ e) σ
  | x :: y :: l, a, e, σ, K => match a with
    | .inl a => K x.1 (x.2.env a ++ e) σ
    | .inr a => elimJ (y :: l) a e σ K

inductive Ann where
  | z
  | s (a b : Ann)
  | j (js : List (Ex × Lv)) (a : Ann)
  | l (L : Lv) (js : List (Ex × Lv)) (a : Ann)
def Ann.fst : Ann → Ann
  | .s a _ => a
  | _ => .z
def Ann.snd : Ann → Ann
  | .s _ b => b
  | _ => .z

def dsts : List Oper → List Nat → List Nat
  | [], acc => acc
  | o :: os, acc => match o.dst with
    | some t => dsts os (t :: acc)
    | none => dsts os acc
/-- The temporaries that code may write. -/
def wr : Code → List Nat → List Nat
  | .region _ ops _, acc => dsts ops.toList acc
  | .seq a b, acc => wr a (wr b acc)
  | .cond _ a b, acc => wr a (wr b acc)
  | .block _ a, acc => wr a acc
  | .loop a, acc => wr a acc
  | .scope a, acc => wr a acc
  | _, acc => acc

/-- Code that leaves the heap alone. -/
def pureC (calls : FuncId → Option Spec) : Code → Bool
  | .region _ ops _ => pureOps calls ops.toList
  | .seq a b => bif pureC calls a then pureC calls b else false
  | .cond _ a b => bif pureC calls a then pureC calls b else false
  | .block _ a => pureC calls a
  | .loop a => pureC calls a
  | .scope a => pureC calls a
  | _ => true

def loopPN {X Y : Type} (f : X → Option (X ⊕ Y)) : Nat → X → Option Y
  | 0, _ => none
  | n + 1, x => match f x with
    | some (.inl x) => loopPN f n x
    | some (.inr y) => some y
    | none => none
open Classical in
noncomputable def loopP {X Y : Type} (f : X → Option (X ⊕ Y)) (x : X) : Option Y :=
  if h : ∃ n r, loopPN f n x = some r then some (h.choose_spec.choose) else none
/-- A loop, cut off after so many rounds. -/
def loopN {X Y : Type} (f : X → Heap → Option ((X ⊕ Y) × Heap)) : Nat → X → Heap → Option (Y × Heap)
  | 0, _, _ => none
  | n + 1, x, σ => match f x σ with
    | some (.inl x, σ) => loopN f n x σ
    | some (.inr y, σ) => some (y, σ)
    | none => none
open Classical in
noncomputable def loopW {X Y : Type} (f : X → Heap → Option ((X ⊕ Y) × Heap)) (x : X) (σ : Heap) : Option (Y × Heap) :=
  if h : ∃ n r, loopN f n x σ = some r then some (h.choose_spec.choose) else none

/-- How an exit of a block's body is one of the block. -/
def mapX (id : Nat) (ex : Ex) : Ex := match ex with
  | .exit i => bif Nat.beq i id then .normal else .exit i
  | ex => ex

noncomputable def den (C : Cx) : Code → Ann → Env → Heap → {Rt : Type} → (Ex → Env → Heap → Option Rt) → Option Rt
  | .skip, _, e, σ, _, K => K .normal e σ
  | .label _, _, e, σ, _, K => K .normal e σ
  | .ret, _, e, σ, _, K => K .ret e σ
  | .exit id, _, e, σ, _, K => K (.exit id) e σ
  | .region _ ops draw, an, e, σ, _, K => (match an with
    | .j js _ => bif pureOps C.calls ops.toList then
        (regK C ops draw e σ fun e _ => packJ js .normal e fun a => some a).bind fun r => elimJ js r (e.drop (dsts ops.toList [])) σ K
      else (regK C ops draw e σ fun e σ => packJ js .normal e fun a => some (a, σ)).bind fun r => elimJ js r.1 (e.drop (dsts ops.toList [])) r.2 K
    | _ => regK C ops draw e σ fun e σ => K .normal e σ)
  | .seq a b, an, e, σ, _, K => den C a an.fst e σ fun ex e σ => (match ex with
    | .normal => den C b an.snd e σ K
    | ex => K ex e σ)
  | .cond c a b, an, e, σ, _, K => ev C e c fun v => asK .B v fun v => (match an with
    | .j js an => bif (bif pureC C.calls a then pureC C.calls b else false) then
        (cond v (den C a an.fst e σ fun ex e _ => packJ js ex e fun x => some x) (den C b an.snd e σ fun ex e _ => packJ js ex e fun x => some x)).bind fun r => elimJ js r (e.drop (wr a (wr b []))) σ K
      else (cond v (den C a an.fst e σ fun ex e σ => packJ js ex e fun x => some (x, σ)) (den C b an.snd e σ fun ex e σ => packJ js ex e fun x => some (x, σ))).bind
        fun r => elimJ js r.1 (e.drop (wr a (wr b []))) r.2 K
    | an => cond v (den C a an.fst e σ K) (den C b an.snd e σ K))
  | .block id a, an, e, σ, _, K => (match an with
    | .j js an => bif pureC C.calls a then
        (den C a an e σ fun ex e _ => packJ js (mapX id ex) e fun x => some x).bind fun r => elimJ js r (e.drop (wr a [])) σ K
      else (den C a an e σ fun ex e σ => packJ js (mapX id ex) e fun x => some (x, σ)).bind fun r => elimJ js r.1 (e.drop (wr a [])) r.2 K
    | an => den C a an e σ fun ex e σ => K (mapX id ex) e σ)
  | .loop a, an, e, σ, _, K => (match an with
    | .l L js an => e.pack L fun x => bif pureC C.calls a then
        (loopP (fun (x : L.ty) => den C a an (L.env x ++ e.drop (wr a [])) σ fun ex e _ => (match ex with
        | .normal => e.pack L fun x => some (Sum.inl x : L.ty ⊕ JT js)
        | ex => packJ js ex e fun y => some (Sum.inr y))) x).bind fun r => elimJ js r (e.drop (wr a [])) σ K
      else (loopW (fun (x : L.ty) σ => den C a an (L.env x ++ e.drop (wr a [])) σ fun ex e σ => (match ex with
        | .normal => e.pack L fun x => some ((Sum.inl x : L.ty ⊕ JT js), σ)
        | ex => packJ js ex e fun y => some (Sum.inr y, σ))) x σ).bind fun r => elimJ js r.1 (e.drop (wr a [])) r.2 K
    | _ => none)
  | _, _, _, _, _, _ => none

/-! ### Functions -/
def resK {Rt : Type} (C : Cx) (e : Env) (σ : Heap) : List ResultVar → (List AVal → Option Rt) → Option Rt
  | [], K => K []
  | .tmp t :: rs, K => match e.get t with
    | some v => resK C e σ rs fun vs => K (v :: vs)
    | none => none
  | .cell a t :: rs, K => C.ti t fun ti => match e.get a with
    | some p => loadK ti σ p fun v => resK C e σ rs fun vs => K (v :: vs)
    | none => none
def env0 : Nat → List AVal → Env
  | _, [] => []
  | i, a :: as => (i, a) :: env0 (i + 1) as
noncomputable def denF (C : Cx) (rs : List ResultVar) (c : Code) (an : Ann) (ks : List Kd) (args : List AVal) (σ : Heap) : Option (Tu ks × Heap) :=
  den C c an (env0 0 args) σ fun ex e σ => match ex with
    | .exit _ => none
    | _ => resK C e σ rs fun vs => packs vs ks fun r => some (r, σ)
noncomputable def denP (C : Cx) (rs : List ResultVar) (c : Code) (an : Ann) (ks : List Kd) (args : List AVal) (σ : Heap) : Option (Tu ks) :=
  bif pureC C.calls c then den C c an (env0 0 args) σ fun ex e σ => match ex with
    | .exit _ => none
    | _ => resK C e σ rs fun vs => packs vs ks fun r => some r
  else none

end Go.Proofs.YtgneblbblihaoaaDoor.A
