/- Abstract values, abstract heaps, and what it means that a world is as an abstract heap says. -/
import Derived.Calls
import Derived.Below
import Derived.KernelRfl
import Derived.Laws.Cells
import Derived.Deep.LoopGhost
import Derived.MapKept
set_option linter.all false
namespace Go.Proofs.YtgneblbblihaoaaDoor.A
open Go Go.RowKit

/-- Abstract values: addresses are objects' numbers. -/
inductive AVal where
  | bool (b : Bool)
  | int (k : IntKind) (n : Int)
  | str (s : ByteArray)
  | ptr (l off : Nat)
  | nilp
  | sl (l off len : Nat) (c : Option Nat)
  | nils
  | box (l : Nat)
  | map (l : Nat)
  | nilm
  | fn (f : Fn) (first cap : List AVal)
  | nilf
  | ifc (t : TypeId) (v : AVal)
  | nili
  | agg (cs : List AVal)
  | tup (vs : List AVal)
  deriving Inhabited

/-- Where an object lies: its block, the first cell, how many elements there is room for, the cells of an element. -/
structure Pl where
  blk : Nat
  start : Nat
  cap : Nat
  sz : Nat

mutual
def VR (m : Nat → Option Pl) : AVal → Value → Prop
  | .bool b, v => v = .bool b
  | .int k n, v => v = .int k n
  | .str s, v => v = .string s
  | .ptr l off, v => ∃ p, m l = some p ∧ v = .pointer (some ⟨p.blk, p.start + off, none⟩)
  | .nilp, v => v = .pointer none
  | .sl l off len c, v => ∃ p cv a, m l = some p ∧ (c = none → off + cv = p.cap) ∧ (∀ k, c = some k → cv = k ∧ off + k ≤ p.cap) ∧ len ≤ cv ∧
      (cv ≠ 0 → a = ⟨p.blk, p.start + off * p.sz, none⟩) ∧ v = .slice (some a) len cv
  | .nils, v => v = .slice none 0 0
  | .box l, v => ∃ p, m l = some p ∧ p.start = 0 ∧ v = .pointer (some ⟨p.blk, 0, none⟩)
  | .map l, v => ∃ p, m l = some p ∧ v = .map (some p.blk)
  | .nilm, v => v = .map none
  | .fn f a b, v => ∃ a' b' : List Value, v = .func f a'.toArray b'.toArray ∧ VRs m a a' ∧ VRs m b b'
  | .nilf, v => v = .nilFunc
  | .ifc t x, v => ∃ y, v = .iface t y ∧ VR m x y
  | .nili, v => v = .nilIface
  | .agg cs, v => ∃ vs : List Value, v = .agg vs.toArray ∧ VRs m cs vs ∧ ∀ u ∈ vs, u.oneCell' = true
  | .tup cs, v => ∃ vs : List Value, v = .tuple vs.toArray ∧ VRs m cs vs
def VRs (m : Nat → Option Pl) : List AVal → List Value → Prop
  | [], vs => vs = []
  | a :: as, vs => ∃ v vs', vs = v :: vs' ∧ VR m a v ∧ VRs m as vs'
end

/-- Places known before are known still. -/
def Sub (m m' : Nat → Option Pl) : Prop := ∀ l p, m l = some p → m' l = some p

theorem Sub.refl (m : Nat → Option Pl) : Sub m m := fun _ _ h => h
theorem Sub.trans {a b c : Nat → Option Pl} (h : Sub a b) (k : Sub b c) : Sub a c := fun l p e => k l p (h l p e)

mutual
theorem VR.mono {m m' : Nat → Option Pl} (h : Sub m m') : ∀ (a : AVal) (v : Value), VR m a v → VR m' a v
  | .bool _, _, e => by simp only [VR] at e ⊢; exact e
  | .int _ _, _, e => by simp only [VR] at e ⊢; exact e
  | .str _, _, e => by simp only [VR] at e ⊢; exact e
  | .ptr _ _, _, e => by simp only [VR] at e ⊢; obtain ⟨p, h1, h2⟩ := e; exact ⟨p, h _ _ h1, h2⟩
  | .nilp, _, e => by simp only [VR] at e ⊢; exact e
  | .sl _ _ _ _, _, e => by simp only [VR] at e ⊢; obtain ⟨p, cv, o, h1, h2⟩ := e; exact ⟨p, cv, o, h _ _ h1, h2⟩
  | .nils, _, e => by simp only [VR] at e ⊢; exact e
  | .box _, _, e => by simp only [VR] at e ⊢; obtain ⟨p, h1, h2⟩ := e; exact ⟨p, h _ _ h1, h2⟩
  | .map _, _, e => by simp only [VR] at e ⊢; obtain ⟨p, h1, h2⟩ := e; exact ⟨p, h _ _ h1, h2⟩
  | .nilm, _, e => by simp only [VR] at e ⊢; exact e
  | .fn _ a b, _, e => by
    simp only [VR] at e ⊢; obtain ⟨x, y, h1, h2, h3⟩ := e; exact ⟨x, y, h1, VRs.mono h a x h2, VRs.mono h b y h3⟩
  | .nilf, _, e => by simp only [VR] at e ⊢; exact e
  | .ifc _ x, _, e => by simp only [VR] at e ⊢; obtain ⟨y, h1, h2⟩ := e; exact ⟨y, h1, VR.mono h x y h2⟩
  | .nili, _, e => by simp only [VR] at e ⊢; exact e
  | .agg cs, _, e => by simp only [VR] at e ⊢; obtain ⟨vs, h1, h2, h3⟩ := e; exact ⟨vs, h1, VRs.mono h cs vs h2, h3⟩
  | .tup cs, _, e => by simp only [VR] at e ⊢; obtain ⟨vs, h1, h2⟩ := e; exact ⟨vs, h1, VRs.mono h cs vs h2⟩
theorem VRs.mono {m m' : Nat → Option Pl} (h : Sub m m') : ∀ (as : List AVal) (vs : List Value), VRs m as vs → VRs m' as vs
  | [], _, e => by simp only [VRs] at e ⊢; exact e
  | a :: as, vs, e => by simp only [VRs] at e ⊢; obtain ⟨v, vs', h1, h2, h3⟩ := e; exact ⟨v, vs', h1, VR.mono h a v h2, VRs.mono h as vs' h3⟩
end

theorem VRs.length {m : Nat → Option Pl} : ∀ {as : List AVal} {vs : List Value}, VRs m as vs → vs.length = as.length
  | [], _, e => by simp only [VRs] at e; simp [e]
  | a :: as, _, e => by simp only [VRs] at e; obtain ⟨v, vs', rfl, _, h⟩ := e; simp [VRs.length h]

theorem VRs.get {m : Nat → Option Pl} : ∀ {as : List AVal} {vs : List Value}, VRs m as vs → ∀ (i : Nat) (a : AVal), as[i]? = some a → ∃ v, vs[i]? = some v ∧ VR m a v
  | [], _, _, i, a, h => by simp at h
  | a :: as, _, e, i, x, h => by
    simp only [VRs] at e; obtain ⟨v, vs', rfl, h1, h2⟩ := e
    cases i with
    | zero => simp at h; subst h; exact ⟨v, by simp, h1⟩
    | succ i => simp at h; obtain ⟨u, h3, h4⟩ := VRs.get h2 i x h; exact ⟨u, by simpa using h3, h4⟩

theorem VRs.of_get {m : Nat → Option Pl} : ∀ {as : List AVal} {vs : List Value}, vs.length = as.length → (∀ (i : Nat) (a : AVal), as[i]? = some a → ∃ v, vs[i]? = some v ∧ VR m a v) → VRs m as vs
  | [], vs, h, _ => by simp only [VRs]; simpa using h
  | a :: as, [], h, _ => by simp at h
  | a :: as, v :: vs, h, g => by
    simp only [VRs]
    refine ⟨v, vs, rfl, ?_, VRs.of_get (by simpa using h) fun i x hx => ?_⟩
    · obtain ⟨u, h1, h2⟩ := g 0 a (by simp); simp at h1; subst h1; exact h2
    · obtain ⟨u, h1, h2⟩ := g (i + 1) x (by simpa using hx); exact ⟨u, by simpa using h1, h2⟩

theorem VRs.append {m : Nat → Option Pl} : ∀ {as bs : List AVal} {vs us : List Value}, VRs m as vs → VRs m bs us → VRs m (as ++ bs) (vs ++ us)
  | [], bs, vs, us, h, k => by simp only [VRs] at h; subst h; simpa using k
  | a :: as, bs, _, us, h, k => by
    simp only [VRs] at h; obtain ⟨v, vs', rfl, h1, h2⟩ := h
    exact ⟨v, vs' ++ us, rfl, h1, VRs.append h2 k⟩

/-- How an object's cells may be used: one's own; others' (they may lie over one another); others', alone in their block; others', of a block that is not frozen. -/
inductive Md where
  | rw | ro | rx | rz
  deriving DecidableEq
def Md.isRw : Md → Bool
  | .rw => true
  | _ => false
def Md.ex : Md → Bool
  | .rw => true
  | .rx => true
  | _ => false
def Md.fr0 : Md → Bool
  | .ro => false
  | _ => true
theorem Md.fr0_of_ex {md : Md} (h : md.ex = true) : md.fr0 = true := by cases md <;> first | rfl | cases h

/-- Abstract objects. -/
inductive AObj where
  | cells (md : Md) (sz : Nat) (cs : List AVal)
  | map (es : List (AVal × AVal))

def AObj.rw : AObj → Bool
  | .cells md _ _ => md.isRw
  | .map _ => true
def AObj.ex : AObj → Bool
  | .cells md _ _ => md.ex
  | .map _ => true

structure Heap where
  next : Nat
  get : Nat → Option AObj

def Heap.set (σ : Heap) (l : Nat) (o : AObj) : Heap := { σ with get := fun k => if k = l then some o else σ.get k }
def Heap.kill (σ : Heap) (l : Nat) : Heap := { σ with get := fun k => if k = l then none else σ.get k }
def Heap.new (σ : Heap) (o : AObj) : Heap := { next := σ.next + 1, get := fun k => if k = σ.next then some o else σ.get k }

/-- One cell of an object. -/
def Heap.cell (σ : Heap) (l o : Nat) : Option AVal :=
  match σ.get l with
  | some (.cells _ _ cs) => cs[o]?
  | _ => none

/-- Heaps grow; what is the others' was there before. -/
structure Grw (σ σ' : Heap) : Prop where
  next : σ.next ≤ σ'.next
  frame : ∀ l o, σ'.get l = some o → o.rw = false → σ.get l = some o
theorem Grw.refl (σ : Heap) : Grw σ σ := ⟨Nat.le_refl _, fun _ _ h _ => h⟩
theorem Grw.trans {a b c : Heap} (h : Grw a b) (k : Grw b c) : Grw a c := ⟨Nat.le_trans h.next k.next, fun l o e r => h.frame l o (k.frame l o e r) r⟩
theorem Grw.set {σ : Heap} {l : Nat} {o : AObj} (h : o.rw = true) : Grw σ (σ.set l o) := ⟨Nat.le_refl _, fun k x e r => by
  simp only [Heap.set] at e
  split at e
  · cases e; rw [h] at r; cases r
  · exact e⟩
theorem Grw.new {σ : Heap} {o : AObj} (h : o.rw = true) : Grw σ (σ.new o) := ⟨Nat.le_succ _, fun k x e r => by
  simp only [Heap.new] at e
  split at e
  · cases e; rw [h] at r; cases r
  · exact e⟩
theorem Grw.kill {σ : Heap} (l : Nat) : Grw σ (σ.kill l) := ⟨Nat.le_refl _, fun k x e r => by
  simp only [Heap.kill] at e
  split at e
  · cases e
  · exact e⟩

/-- All that is there is there, too. -/
def Ext (σ τ : Heap) : Prop := ∀ l o, σ.get l = some o → τ.get l = some o
theorem Ext.refl (σ : Heap) : Ext σ σ := fun _ _ h => h

/-- An object as the world has it. -/
def ObjR (m : Nat → Option Pl) (p : Pl) : AObj → World → Prop
  | .cells md sz cs, w => ∃ c e fr, w.heap[p.blk]? = some (.cells c e fr) ∧ (md.fr0 = true → fr = (0, 0)) ∧ p.sz = sz ∧ True ∧ cs.length ≤ p.cap * sz ∧
      p.start + p.cap * sz ≤ c.size ∧ ∀ (i : Nat) (a : AVal), cs[i]? = some a → ∃ v, c[p.start + i]? = some v ∧ VR m a v ∧ v.oneCell' = true
  | .map es, w => ∃ (ents : Array MapEntry) (clock : Nat), w.heap[p.blk]? = some (.map ents clock) ∧ ents.size = es.length ∧
      (∀ (i : Nat) (k v : AVal), es[i]? = some (k, v) → ∃ e : MapEntry, ents[i]? = some e ∧ VR m k e.key ∧ VR m v e.val) ∧ MapKept.Stamped ents clock

/-- The blocks in B are as they were; the streams are, too; no block has gone. -/
structure Keeps (B : Nat → Prop) (w w' : World) : Prop where
  os : w'.os = w.os
  tape : w'.tape = w.tape
  output : w'.output = w.output
  size : w.heap.size ≤ w'.heap.size
  block : ∀ k, B k → w'.heap[k]? = w.heap[k]?

theorem Keeps.trans {B : Nat → Prop} {a b c : World} (h : Keeps B a b) (k : Keeps B b c) : Keeps B a c :=
  ⟨k.os.trans h.os, k.tape.trans h.tape, k.output.trans h.output, Nat.le_trans h.size k.size, fun i hi => (k.block i hi).trans (h.block i hi)⟩

theorem Keeps.refl (B : Nat → Prop) (w : World) : Keeps B w w := ⟨rfl, rfl, rfl, Nat.le_refl _, fun _ _ => rfl⟩

/-- What was ahead: the world, and where the objects of the first names lie. -/
structure Base where
  w : World
  n : Nat
  m : Nat → Option Pl
  pm : Bool

/-- The world is as the heap says; the blocks in B are as they were; names that were known lie where they lay. -/
structure R (B : Nat → Prop) (w0 : Base) (m : Nat → Option Pl) (σ : Heap) (w : World) : Prop where
  obj : ∀ l o, σ.get l = some o → ∃ p, m l = some p ∧ ObjR m p o w
  dom : ∀ l p, m l = some p → l < σ.next ∧ p.blk < w.heap.size
  excl : ∀ l l' o o' p p', l ≠ l' → σ.get l = some o → σ.get l' = some o' → m l = some p → m l' = some p' → o.ex = true → p.blk ≠ p'.blk
  own : w0.pm = false → ∀ l o p, σ.get l = some o → o.rw = true → m l = some p → ¬ B p.blk
  below : Keeps B w0.w w
  base : ∀ k, B k → k < w.heap.size
  oldn : w0.n ≤ σ.next
  old : ∀ l, l < w0.n → m l = w0.m l

end Go.Proofs.YtgneblbblihaoaaDoor.A
