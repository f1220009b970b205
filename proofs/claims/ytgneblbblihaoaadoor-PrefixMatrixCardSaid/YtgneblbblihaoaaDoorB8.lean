/- Regions whose order is open: every order comes to the same. -/
import Derived.Test.YtgneblbblihaoaaDoorB7
set_option linter.all false
namespace Go.Proofs.YtgneblbblihaoaaDoor.A
open Go Go.RowKit

def Al (C : Cx) (ops : Array Oper) (W : Nat → Bool) (k : Nat) : Prop := ∃ o, ops[k]? = some o ∧ pureOp C.calls o = false ∧ allocOp o = true ∧ W k = true
def No (C : Cx) (ops : Array Oper) (W : Nat → Bool) (k : Nat) : Prop := ∃ o, ops[k]? = some o ∧ noisy C o = true ∧ W k = true

mutual
/-- All names are below. -/
def Lt (n : Nat) : AVal → Prop
  | .ptr l _ => l < n
  | .sl l _ _ _ => l < n
  | .map l => l < n
  | .fn _ a b => Lts n a ∧ Lts n b
  | .ifc _ v => Lt n v
  | .agg cs => Lts n cs
  | .tup vs => Lts n vs
  | .bool _ => True
  | .int _ _ => True
  | .str _ => True
  | .nilp => True
  | .nils => True
  | .box l => l < n
  | .nilm => True
  | .nilf => True
  | .nili => True
def Lts (n : Nat) : List AVal → Prop
  | [] => True
  | a :: as => Lt n a ∧ Lts n as
end

mutual
theorem VR.lt {m : Nat → Option Pl} {n : Nat} (h : ∀ l p, m l = some p → l < n) : ∀ (a : AVal) (v : Value), VR m a v → Lt n a
  | .bool _, _, _ => by simp only [Lt]
  | .int _ _, _, _ => by simp only [Lt]
  | .str _, _, _ => by simp only [Lt]
  | .ptr _ _, _, e => by simp only [VR] at e; obtain ⟨p, h1, _⟩ := e; simp only [Lt]; exact h _ _ h1
  | .nilp, _, _ => by simp only [Lt]
  | .sl _ _ _ _, _, e => by simp only [VR] at e; obtain ⟨p, _, _, h1, _⟩ := e; simp only [Lt]; exact h _ _ h1
  | .nils, _, _ => by simp only [Lt]
  | .box _, _, e => by simp only [VR] at e; obtain ⟨p, h1, _⟩ := e; simp only [Lt]; exact h _ _ h1
  | .map _, _, e => by simp only [VR] at e; obtain ⟨p, h1, _⟩ := e; simp only [Lt]; exact h _ _ h1
  | .nilm, _, _ => by simp only [Lt]
  | .fn _ a b, _, e => by
    simp only [VR] at e; obtain ⟨x, y, _, h2, h3⟩ := e; simp only [Lt]; exact ⟨VRs.lt h a x h2, VRs.lt h b y h3⟩
  | .nilf, _, _ => by simp only [Lt]
  | .ifc _ x, _, e => by simp only [VR] at e; obtain ⟨y, _, h2⟩ := e; simp only [Lt]; exact VR.lt h x y h2
  | .nili, _, _ => by simp only [Lt]
  | .agg cs, _, e => by simp only [VR] at e; obtain ⟨vs, _, h2, _⟩ := e; simp only [Lt]; exact VRs.lt h cs vs h2
  | .tup cs, _, e => by simp only [VR] at e; obtain ⟨vs, _, h2⟩ := e; simp only [Lt]; exact VRs.lt h cs vs h2
theorem VRs.lt {m : Nat → Option Pl} {n : Nat} (h : ∀ l p, m l = some p → l < n) : ∀ (as : List AVal) (vs : List Value), VRs m as vs → Lts n as
  | [], _, _ => by simp only [Lts]
  | a :: as, vs, e => by simp only [VRs] at e; obtain ⟨v, vs', _, h2, h3⟩ := e; simp only [Lts]; exact ⟨VR.lt h a v h2, VRs.lt h as vs' h3⟩
end

mutual
theorem VR.cut {m : Nat → Option Pl} {n : Nat} : ∀ (a : AVal) (v : Value), Lt n a → VR m a v → VR (A.cut n m) a v
  | .bool _, _, _, e => by simp only [VR] at e ⊢; exact e
  | .int _ _, _, _, e => by simp only [VR] at e ⊢; exact e
  | .str _, _, _, e => by simp only [VR] at e ⊢; exact e
  | .ptr _ _, _, h, e => by simp only [Lt] at h; simp only [VR] at e ⊢; obtain ⟨p, h1, h2⟩ := e; exact ⟨p, by rw [cut_lt h]; exact h1, h2⟩
  | .nilp, _, _, e => by simp only [VR] at e ⊢; exact e
  | .sl _ _ _ _, _, h, e => by simp only [Lt] at h; simp only [VR] at e ⊢; obtain ⟨p, cv, o, h1, h2⟩ := e; exact ⟨p, cv, o, by rw [cut_lt h]; exact h1, h2⟩
  | .nils, _, _, e => by simp only [VR] at e ⊢; exact e
  | .box _, _, h, e => by simp only [Lt] at h; simp only [VR] at e ⊢; obtain ⟨p, h1, h2⟩ := e; exact ⟨p, by rw [cut_lt h]; exact h1, h2⟩
  | .map _, _, h, e => by simp only [Lt] at h; simp only [VR] at e ⊢; obtain ⟨p, h1, h2⟩ := e; exact ⟨p, by rw [cut_lt h]; exact h1, h2⟩
  | .nilm, _, _, e => by simp only [VR] at e ⊢; exact e
  | .fn _ a b, _, h, e => by
    simp only [Lt] at h; simp only [VR] at e ⊢; obtain ⟨x, y, h1, h2, h3⟩ := e; exact ⟨x, y, h1, VRs.cut a x h.1 h2, VRs.cut b y h.2 h3⟩
  | .nilf, _, _, e => by simp only [VR] at e ⊢; exact e
  | .ifc _ x, _, h, e => by simp only [Lt] at h; simp only [VR] at e ⊢; obtain ⟨y, h1, h2⟩ := e; exact ⟨y, h1, VR.cut x y h h2⟩
  | .nili, _, _, e => by simp only [VR] at e ⊢; exact e
  | .agg cs, _, h, e => by simp only [Lt] at h; simp only [VR] at e ⊢; obtain ⟨vs, h1, h2, h3⟩ := e; exact ⟨vs, h1, VRs.cut cs vs h h2, h3⟩
  | .tup cs, _, h, e => by simp only [Lt] at h; simp only [VR] at e ⊢; obtain ⟨vs, h1, h2⟩ := e; exact ⟨vs, h1, VRs.cut cs vs h h2⟩
theorem VRs.cut {m : Nat → Option Pl} {n : Nat} : ∀ (as : List AVal) (vs : List Value), Lts n as → VRs m as vs → VRs (A.cut n m) as vs
  | [], _, _, e => by simp only [VRs] at e ⊢; exact e
  | a :: as, vs, h, e => by simp only [Lts] at h; simp only [VRs] at e ⊢; obtain ⟨v, vs', h1, h2, h3⟩ := e; exact ⟨v, vs', h1, VR.cut a v h.1 h2, VRs.cut as vs' h.2 h3⟩
end

structure Sit (C : Cx) (ops : Array Oper) (E : Nat → Env) (H Z : Nat → Heap) (W : Nat → Bool) (V : Nat → AVal) (B : Nat → Prop) (w0 : Base) (m0 : Nat → Option Pl) (a0 : Act) : Prop where
  reg : Reg C ops
  run : RunOk C ops.toList (masks ops.toList []) ops.toList 0 [] [] E H Z W V
  hz0 : H 0 = Z 0
  env0 : ∀ t u, (E 0).get t = some u → VR m0 u (a0.tmps.getD t undef)
  glob : GlobR C.NG m0
  m0lt : ∀ l p, m0 l = some p → l < (Z 0).next
  w0n : w0.n ≤ (Z 0).next
  hC : ∀ f s, C.calls f = some s → SpecOk C.P C.NG f s
  pm : w0.pm = true → pureOps C.calls ops.toList = true
  cl : ∀ i, i < ops.size → Lt (Z (i + 1)).next (V i)

structure HInv (C : Cx) (ops : Array Oper) (Z : Nat → Heap) (W : Nat → Bool) (B : Nat → Prop) (w0 : Base) (m0 : Nat → Option Pl) (listed : Array Bool) (p : Nat) (mc : Nat → Option Pl) (G : Heap) (w : World) : Prop where
  size : listed.size = ops.size
  closed : Closed ops listed
  pn : p ≤ ops.size
  nois : ∀ j, No C ops W j → (Ld listed j ↔ j < p)
  pos : p = 0 ∨ ∃ j, p = j + 1 ∧ No C ops W j
  sub : Sub m0 mc
  dom : ∀ l pl, mc l = some pl → l < (Z p).next ∨ ∃ k, p ≤ k ∧ Ld listed k ∧ Al C ops W k ∧ l = (Z k).next
  r : R B w0 mc G w
  gn : G.next = (Z ops.size).next
  gz : ∀ l o, (Z p).get l = some o → G.get l = some o
  zlt : ∀ l o, (Z p).get l = some o → l < (Z p).next
  gp : ∀ k, p ≤ k → Ld listed k → Al C ops W k → G.get (Z k).next = (Z (k + 1)).get (Z k).next
  gd : ∀ l o, G.get l = some o → (l < (Z p).next ∧ (Z p).get l = some o) ∨ ∃ k, p ≤ k ∧ Ld listed k ∧ Al C ops W k ∧ l = (Z k).next
  zobj : ∀ l o, (Z p).get l = some o → ∃ pl, mc l = some pl ∧ ObjR (cut (Z p).next mc) pl o w
  pobj : ∀ k o, p ≤ k → Ld listed k → Al C ops W k → (Z (k + 1)).get (Z k).next = some o → ∃ pl, mc (Z k).next = some pl ∧ ObjR (cut (Z (k + 1)).next mc) pl o w

structure AInv (C : Cx) (ops : Array Oper) (Z : Nat → Heap) (V : Nat → AVal) (a0 : Act) (listed : Array Bool) (mc : Nat → Option Pl) (a : Act) : Prop where
  vals : ∀ i o t, ops[i]? = some o → Ld listed i → o.dst = some t → VR (cut (Z (i + 1)).next mc) (V i) (a.tmps.getD t undef)
  old : ∀ t, (∀ i o, ops[i]? = some o → Ld listed i → o.dst ≠ some t) → a.tmps.getD t undef = a0.tmps.getD t undef
  asz : a.tmps.size = C.n
  defers : a.defers = a0.defers

section
variable {C : Cx} {ops : Array Oper} {E : Nat → Env} {H Z : Nat → Heap} {W : Nat → Bool} {V : Nat → AVal} {B : Nat → Prop} {w0 : Base} {m0 : Nat → Option Pl} {a0 : Act}

theorem Sit.stp (hs : Sit C ops E H Z W V B w0 m0 a0) {k : Nat} {o : Oper} (ho : ops[k]? = some o) : StepOk C ops.toList o (E k) (E (k + 1)) (H k) (H (k + 1)) (Z k) (Z (k + 1)) (W k) (V k) :=
  hs.run.step k o (by simpa using ho)

theorem Sit.op (k : Nat) (h : k < ops.size) : ∃ o, ops[k]? = some o := ⟨_, Array.getElem?_eq_getElem h⟩

theorem Sit.grw (hs : Sit C ops E H Z W V B w0 m0 a0) : ∀ (j i : Nat), i ≤ j → j ≤ ops.size → Grw (Z i) (Z j)
  | 0, i, h, _ => by have : i = 0 := by omega
                     subst this; exact Grw.refl _
  | j + 1, i, h, hj => by
    by_cases e : i = j + 1
    · subst e; exact Grw.refl _
    · obtain ⟨o, ho⟩ := Sit.op (ops := ops) j (by omega)
      exact (hs.grw j i (by omega) (by omega)).trans (hs.stp ho).next

theorem Sit.mono (hs : Sit C ops E H Z W V B w0 m0 a0) {i j : Nat} (h : i ≤ j) (hj : j ≤ ops.size) : (Z i).next ≤ (Z j).next := (hs.grw j i h hj).next

theorem Al.lt {k : Nat} (h : Al C ops W k) : k < ops.size := let ⟨_, ho, _⟩ := h; (Array.getElem?_eq_some_iff.1 ho).1
theorem No.lt {k : Nat} (h : No C ops W k) : k < ops.size := let ⟨_, ho, _⟩ := h; (Array.getElem?_eq_some_iff.1 ho).1
theorem Al.no {k : Nat} (h : Al C ops W k) : ¬ No C ops W k := fun ⟨o, h1, h2, _⟩ => by
  obtain ⟨o', h3, h4, h5, _⟩ := h
  rw [h1] at h3; cases h3
  simp [noisy, h5] at h2

theorem Sit.al (hs : Sit C ops E H Z W V B w0 m0 a0) {k : Nat} {o : Oper} (ho : ops[k]? = some o) (h : Al C ops W k) :
    ∃ ob, ob.rw = true ∧ Z (k + 1) = (Z k).new ob ∧ ∀ τ : Heap, τ.next = (Z k).next → ∀ {R2 : Type} (K2 : AVal → Heap → Option R2), dop C ((E k).only (opTmps o)) o τ K2 = K2 (V k) (τ.new ob) := by
  obtain ⟨o', ho', h1, h2, h3⟩ := h
  rw [ho] at ho'; cases ho'
  have h4 := ((hs.stp ho).alloc h3 h1 h2).1 (AVal × Heap) (fun v σ => some (v, σ))
  obtain ⟨ob, v, h5, h6, h7⟩ := alloc_at h2 h4
  obtain ⟨e1, e2⟩ := Prod.mk.inj (Option.some.inj h6)
  exact ⟨ob, h5, e2.symm, fun τ hτ R2 K2 => by rw [← e1]; exact h7 τ hτ K2⟩

theorem Sit.al_next (hs : Sit C ops E H Z W V B w0 m0 a0) {k : Nat} (h : Al C ops W k) : (Z (k + 1)).next = (Z k).next + 1 := by
  obtain ⟨o, ho, _⟩ := id h
  obtain ⟨ob, _, h1, _⟩ := hs.al ho h
  rw [h1]; rfl

/-- Names of made objects lie apart. -/
theorem Sit.al_lt (hs : Sit C ops E H Z W V B w0 m0 a0) {k j : Nat} (h : Al C ops W k) (hkj : k < j) (hj : j ≤ ops.size) : (Z k).next < (Z j).next := by
  have := hs.al_next h
  have := hs.mono (i := k + 1) (j := j) (by omega) hj
  omega
theorem Sit.al_inj (hs : Sit C ops E H Z W V B w0 m0 a0) {k j : Nat} (h : Al C ops W k) (h' : Al C ops W j) (he : (Z k).next = (Z j).next) : k = j := by
  rcases Nat.lt_trichotomy k j with h1 | h1 | h1
  · have := hs.al_lt h h1 (Nat.le_of_lt h'.lt); omega
  · exact h1
  · have := hs.al_lt h' h1 (Nat.le_of_lt h.lt); omega

theorem Sit.quietH (hs : Sit C ops E H Z W V B w0 m0 a0) {k : Nat} (hk : k < ops.size) (h : ¬ No C ops W k) : H (k + 1) = H k := by
  obtain ⟨o, ho⟩ := Sit.op (ops := ops) k hk
  have hst := hs.stp ho
  cases hw : W k with
  | false => exact (hst.off hw).2.2
  | true =>
    cases hp : pureOp C.calls o with
    | true => exact (hst.pure hw hp).2.2
    | false =>
      cases ha : allocOp o with
      | true => exact (hst.alloc hw hp ha).2
      | false => exact absurd ⟨o, ho, by simp [noisy, hp, ha], hw⟩ h

theorem Sit.quietZ (hs : Sit C ops E H Z W V B w0 m0 a0) {k : Nat} (hk : k < ops.size) (h : ¬ No C ops W k) (h' : ¬ Al C ops W k) : Z (k + 1) = Z k := by
  obtain ⟨o, ho⟩ := Sit.op (ops := ops) k hk
  have hst := hs.stp ho
  cases hw : W k with
  | false => exact (hst.off hw).2.1
  | true =>
    cases hp : pureOp C.calls o with
    | true => exact (hst.pure hw hp).2.1
    | false =>
      cases ha : allocOp o with
      | true => exact absurd ⟨o, ho, hp, ha, hw⟩ h'
      | false => exact absurd ⟨o, ho, by simp [noisy, hp, ha], hw⟩ h

theorem Sit.noH (hs : Sit C ops E H Z W V B w0 m0 a0) {k : Nat} (h : No C ops W k) : H (k + 1) = Z (k + 1) := by
  obtain ⟨o, ho, h1, h2⟩ := h
  exact ((hs.stp ho).noisy h2 h1).2

theorem Sit.hp (hs : Sit C ops E H Z W V B w0 m0 a0) {p : Nat} (h : p = 0 ∨ ∃ j, p = j + 1 ∧ No C ops W j) : H p = Z p := by
  rcases h with rfl | ⟨j, rfl, h⟩
  · exact hs.hz0
  · exact hs.noH h

theorem Sit.constH (hs : Sit C ops E H Z W V B w0 m0 a0) {p : Nat} : ∀ (q : Nat), p ≤ q → q ≤ ops.size → (∀ k, p ≤ k → k < q → ¬ No C ops W k) → H q = H p
  | 0, h, _, _ => by have : p = 0 := by omega
                     subst this; rfl
  | q + 1, h, hq, hn => by
    by_cases e : p = q + 1
    · subst e; rfl
    · rw [hs.quietH (by omega) (hn q (by omega) (by omega))]
      exact hs.constH q (by omega) (by omega) (fun k h1 h2 => hn k h1 (by omega))

/-- What lies in the heap between two turns of it: what lay there, and what was made. -/
theorem Sit.between (hs : Sit C ops E H Z W V B w0 m0 a0) {p : Nat} : ∀ (q : Nat), p ≤ q → q ≤ ops.size → (∀ k, p ≤ k → k < q → ¬ No C ops W k) → ∀ l o, (Z q).get l = some o →
    (Z p).get l = some o ∨ ∃ k, p ≤ k ∧ k < q ∧ Al C ops W k ∧ l = (Z k).next ∧ (Z (k + 1)).get l = some o
  | 0, h, _, _, l, o, hl => by have : p = 0 := by omega
                               subst this; exact .inl hl
  | q + 1, h, hq, hn, l, o, hl => by
    by_cases e : p = q + 1
    · subst e; exact .inl hl
    · have prv := hs.between (p := p) q (by omega) (by omega) (fun k h1 h2 => hn k h1 (by omega)) l o
      have up : (Z p).get l = some o ∨ (∃ k, p ≤ k ∧ k < q ∧ Al C ops W k ∧ l = (Z k).next ∧ (Z (k + 1)).get l = some o) → (Z p).get l = some o ∨ ∃ k, p ≤ k ∧ k < q + 1 ∧ Al C ops W k ∧ l = (Z k).next ∧ (Z (k + 1)).get l = some o := fun h =>
        h.imp id fun ⟨k, h1, h2, h3⟩ => ⟨k, h1, by omega, h3⟩
      by_cases ha : Al C ops W q
      · obtain ⟨oq, hoq, _⟩ := id ha
        obtain ⟨ob, _, h1, _⟩ := hs.al hoq ha
        by_cases el : l = (Z q).next
        · exact .inr ⟨q, by omega, by omega, ha, el, hl⟩
        · rw [h1] at hl
          simp only [Heap.new, if_neg el] at hl
          exact up (prv hl)
      · rw [hs.quietZ (by omega) (hn q (by omega) (by omega)) ha] at hl
        exact up (prv hl)

theorem Sit.stay (hs : Sit C ops E H Z W V B w0 m0 a0) {p : Nat} : ∀ (q : Nat), p ≤ q → q ≤ ops.size → (∀ k, p ≤ k → k < q → ¬ No C ops W k) → ∀ l o, l < (Z p).next → (Z p).get l = some o → (Z q).get l = some o
  | 0, h, _, _, l, o, _, hl => by have : p = 0 := by omega
                                  subst this; exact hl
  | q + 1, h, hq, hn, l, o, hlt, hl => by
    by_cases e : p = q + 1
    · subst e; exact hl
    · have prv := hs.stay (p := p) q (by omega) (by omega) (fun k h1 h2 => hn k h1 (by omega)) l o hlt hl
      have hm := hs.mono (i := p) (j := q) (by omega) (by omega)
      by_cases ha : Al C ops W q
      · obtain ⟨oq, hoq, _⟩ := id ha
        obtain ⟨ob, _, h1, _⟩ := hs.al hoq ha
        rw [h1]; simp only [Heap.new]; rw [if_neg (by omega)]; exact prv
      · rw [hs.quietZ (by omega) (hn q (by omega) (by omega)) ha]; exact prv

theorem Sit.envGet (hs : Sit C ops E H Z W V B w0 m0 a0) : ∀ (i : Nat), i ≤ ops.size → ∀ t u, (E i).get t = some u →
    (∃ j o, j < i ∧ ops[j]? = some o ∧ o.dst = some t ∧ u = V j) ∨ ((∀ j o, j < i → ops[j]? = some o → o.dst ≠ some t) ∧ (E 0).get t = some u)
  | 0, _, t, u, h => .inr ⟨fun j o h => by omega, h⟩
  | i + 1, hi, t, u, h => by
    obtain ⟨o, ho⟩ := Sit.op (ops := ops) i (by omega)
    rw [(hs.stp ho).env t] at h
    by_cases e : o.dst = some t
    · rw [if_pos e] at h; cases h
      exact .inl ⟨i, o, by omega, ho, e, rfl⟩
    · rw [if_neg e] at h
      rcases hs.envGet i (by omega) t u h with ⟨j, oj, h1, h2⟩ | ⟨h1, h2⟩
      · exact .inl ⟨j, oj, by omega, h2⟩
      · refine .inr ⟨fun j oj hj hoj => ?_, h2⟩
        rcases Nat.lt_or_ge j i with hlt | hge
        · exact h1 j oj hlt hoj
        · have : j = i := by omega
          subst this; rw [ho] at hoj; cases hoj; exact e

theorem Sit.sub0 (hs : Sit C ops E H Z W V B w0 m0 a0) {mc : Nat → Option Pl} (S : Sub m0 mc) {i : Nat} (hi : i ≤ ops.size) : Sub m0 (cut (Z i).next mc) := fun l p h => by
  rw [cut_lt (Nat.lt_of_lt_of_le (hs.m0lt l p h) (hs.mono (Nat.zero_le i) hi))]; exact S l p h

/-- What an operation that may come now looks at has its value. -/
theorem Sit.looks (hs : Sit C ops E H Z W V B w0 m0 a0) {listed : Array Bool} {mc : Nat → Option Pl} {a : Act} (hsz : listed.size = ops.size) (hcl : Closed ops listed) (S : Sub m0 mc) (ha : AInv C ops Z V a0 listed mc a) {i : Nat} {o : Oper} (ho : ops[i]? = some o) (hu : ¬ Ld listed i)
    (hl : ∀ e ∈ o.after, Region.binds .any e = true → Ld listed e.on) {t : Nat} (ht : t ∈ o.looksAt ops) {u : AVal} (hg : (E i).get t = some u) : VR (cut (Z i).next mc) u (a.tmps.getD t undef) := by
  have hi := (Array.getElem?_eq_some_iff.1 ho).1
  rcases hs.envGet i (Nat.le_of_lt hi) t u hg with ⟨j, oj, h1, h2, h3, h4⟩ | ⟨h1, h2⟩
  · subst h4
    rcases hs.reg.lex j i oj o h1 h2 ho with ⟨e, he, hb, hj⟩ | hap
    · have := hl e he hb
      rw [hj] at this
      exact VR.mono (cut_mono (hs.mono (by omega) (Nat.le_of_lt hi)) (Sub.refl mc)) _ _ (ha.vals j oj t h2 this h3)
    · exact absurd ht ((Oper.apart_spec hap).1 t h3)
  · rw [ha.old t fun j oj hj hlj hd => ?_]
    · exact VR.mono (hs.sub0 S (Nat.le_of_lt hi)) _ _ (hs.env0 t u h2)
    · rcases Nat.lt_trichotomy j i with h | h | h
      · exact h1 j oj h hj hd
      · subst h; exact hu hlj
      · rcases hs.reg.lex i j o oj h ho hj with ⟨e, he, hb, hji⟩ | hap
        · have := hcl j oj hj hlj e he hb
          rw [hji] at this; exact hu this
        · exact (Oper.apart_spec hap).2.2 t hd ht

theorem Sit.envR (hs : Sit C ops E H Z W V B w0 m0 a0) {listed : Array Bool} {mc : Nat → Option Pl} {a : Act} (hsz : listed.size = ops.size) (hcl : Closed ops listed) (S : Sub m0 mc) (ha : AInv C ops Z V a0 listed mc a) {i : Nat} {o : Oper} (ho : ops[i]? = some o) (hu : ¬ Ld listed i)
    (hl : ∀ e ∈ o.after, Region.binds .any e = true → Ld listed e.on) : EnvR C (cut (Z i).next mc) ((E i).only (opTmps o)) a := by
  refine ⟨fun t u hg => ?_, fun g hgg => ?_, ha.asz⟩
  · obtain ⟨h1, h2⟩ := Env.get_only _ _ _ _ hg
    exact hs.looks hsz hcl S ha ho hu hl (opTmps_looks h1) h2
  · obtain ⟨p, h1, h2⟩ := hs.glob g hgg
    exact ⟨p, hs.sub0 S (Nat.le_of_lt (Array.getElem?_eq_some_iff.1 ho).1) g p h1, h2⟩

/-- An operation is carried out just if the abstract run carries it out. -/
theorem Sit.wanted (hs : Sit C ops E H Z W V B w0 m0 a0) {listed : Array Bool} {mc : Nat → Option Pl} {a : Act} (hsz : listed.size = ops.size) (hcl : Closed ops listed) (S : Sub m0 mc) (ha : AInv C ops Z V a0 listed mc a) {i : Nat} {o : Oper} (ho : ops[i]? = some o) (hu : ¬ Ld listed i)
    (hl : ∀ e ∈ o.after, Region.binds .any e = true → Ld listed e.on) : Region.wanted o (yielded ops a.tmps) = W i := by
  cases hg : o.guard with
  | none => rw [(hs.stp ho).guard hg]; simp [Region.wanted, hg]
  | some g =>
    obtain ⟨g, want⟩ := g
    obtain ⟨oj, t, h1, h2, h3⟩ := (hs.stp ho).guarded g want hg
    have h1' : ops[g]? = some oj := by simpa using h1
    have ht : t ∈ o.looksAt ops := by
      unfold Oper.looksAt
      exact List.mem_append_right _ (by simp [hg, h1', h2])
    rcases h3 with ⟨c, h4, h5⟩ | ⟨h4, h5⟩
    · have hval := hs.looks hsz hcl S ha ho hu hl ht h4
      simp only [VR] at hval
      have hin : a.tmps[t]? = some (.bool c) := by
        rw [Array.getD_eq_getD_getElem?] at hval
        cases hx : a.tmps[t]? with
        | none => rw [hx] at hval; simp [undef] at hval
        | some x => rw [hx] at hval; simpa using hval
      have hyield : yielded ops a.tmps g = some c := by simp [yielded, h1', h2, hin]
      rw [h5]
      simp only [Region.wanted, hg, hyield]
      cases c <;> cases want <;> rfl
    · have hval := hs.looks hsz hcl S ha ho hu hl ht h4
      simp only [VR] at hval
      obtain ⟨vs, hval, _⟩ := hval
      have hyield : yielded ops a.tmps g = none := by
        simp only [yielded, h1', Option.bind_some, h2]
        rw [Array.getD_eq_getD_getElem?] at hval
        cases hx : a.tmps[t]? with
        | none => rfl
        | some x => rw [hx] at hval; simp only [Option.getD_some] at hval; rw [hval]
      rw [h5]
      simp only [Region.wanted, hg, hyield]; rfl

/-- A value has been put. -/
theorem Sit.put (hs : Sit C ops E H Z W V B w0 m0 a0) {listed : Array Bool} {mc mc' : Nat → Option Pl} {a : Act} (hsz : listed.size = ops.size) (ha : AInv C ops Z V a0 listed mc a) {i : Nat} {o : Oper} (ho : ops[i]? = some o) (S : Sub mc mc') {cv : Value} (hv : VR (cut (Z (i + 1)).next mc') (V i) cv) :
    AInv C ops Z V a0 (listed.setIfInBounds i true) mc' (a.put o.dst cv) := by
  have hi := (Array.getElem?_eq_some_iff.1 ho).1
  refine ⟨fun j oj t hj hlj hd => ?_, fun t ht => ?_, by rw [put_size]; exact ha.asz, by rw [put_defers]; exact ha.defers⟩
  · rw [put_tmps]
    by_cases e : j = i
    · subst e; rw [ho] at hj; cases hj
      rw [if_pos ⟨hd, by rw [ha.asz]; exact (hs.stp ho).dst t hd⟩]; exact hv
    · rw [if_neg (fun x => hs.reg.dst j i oj o t e hj ho hd x.1)]
      exact VR.mono (cut_mono (Nat.le_refl _) S) _ _ (ha.vals j oj t hj (((ld_set (by omega)).1 hlj).resolve_right e) hd)
  · rw [put_tmps, if_neg (fun x => ht i o ho ((ld_set (by omega)).2 (.inr rfl)) x.1)]
    exact ha.old t fun j oj hj hlj => ht j oj hj ((ld_set (by omega)).2 (.inl hlj))

theorem closed_set {listed : Array Bool} (hsz : listed.size = ops.size) (hcl : Closed ops listed) {i : Nat} {o : Oper} (ho : ops[i]? = some o) (hl : ∀ e ∈ o.after, Region.binds .any e = true → Ld listed e.on) : Closed ops (listed.setIfInBounds i true) := fun j oj hj hlj e he hb => by
  have hi := (Array.getElem?_eq_some_iff.1 ho).1
  refine (ld_set (by omega)).2 (.inl ?_)
  rcases (ld_set (by omega)).1 hlj with h | h
  · exact hcl j oj hj h e he hb
  · subst h; rw [ho] at hj; cases hj; exact hl e he hb
end

end Go.Proofs.YtgneblbblihaoaaDoor.A
