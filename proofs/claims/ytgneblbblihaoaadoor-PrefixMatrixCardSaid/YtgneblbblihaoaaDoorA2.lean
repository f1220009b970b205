/- What the relation between abstract heap and world bears: reading, making, writing. -/
import Derived.Test.YtgneblbblihaoaaDoorA1
set_option linter.all false
namespace Go.Proofs.YtgneblbblihaoaaDoor.A
open Go Go.RowKit

structure Upd (b : Nat) (w w' : World) : Prop where
  os : w'.os = w.os
  tape : w'.tape = w.tape
  output : w'.output = w.output
  size : w.heap.size ≤ w'.heap.size
  block : ∀ k, k ≠ b → k < w.heap.size → w'.heap[k]? = w.heap[k]?

theorem Upd.below {B : Nat → Prop} {b : Nat} {w w' : World} (h : Upd b w w') (hB : ¬ B b) (hs : ∀ k, B k → k < w.heap.size) : Keeps B w w' :=
  ⟨h.os, h.tape, h.output, h.size, fun k hk => h.block k (fun e => hB (e ▸ hk)) (hs k hk)⟩

theorem Upd.trans {b : Nat} {w w' w'' : World} (h : Upd b w w') (k : Upd b w' w'') : Upd b w w'' :=
  ⟨k.os.trans h.os, k.tape.trans h.tape, k.output.trans h.output, Nat.le_trans h.size k.size, fun i hi hl => (k.block i hi (Nat.lt_of_lt_of_le hl h.size)).trans (h.block i hi hl)⟩

theorem ObjR.mono {m m' : Nat → Option Pl} {p : Pl} {o : AObj} {w w' : World} (h : ObjR m p o w) (S : Sub m m') (hb : w'.heap[p.blk]? = w.heap[p.blk]?) : ObjR m' p o w' := by
  cases o with
  | cells md sz cs =>
    obtain ⟨c, e, fr, h1, h2, h3, h4, h5, h6, h7⟩ := h
    refine ⟨c, e, fr, by rw [hb]; exact h1, h2, h3, h4, h5, h6, fun i a hi => ?_⟩
    obtain ⟨v, k1, k2, k3⟩ := h7 i a hi
    exact ⟨v, k1, VR.mono S a v k2, k3⟩
  | map es =>
    obtain ⟨c, e, h1, h2, h3, h4⟩ := h
    refine ⟨c, e, by rw [hb]; exact h1, h2, fun i k v hi => ?_, h4⟩
    obtain ⟨x, k1, k2, k3⟩ := h3 i k v hi
    exact ⟨x, k1, VR.mono S _ _ k2, VR.mono S _ _ k3⟩

/-- One object turns, or is new; its block alone turns, or is new. -/
theorem R.upd {B : Nat → Prop} {w0 : Base} {m m' : Nat → Option Pl} {σ σ' : Heap} {w w' : World} {b l : Nat} {o : AObj} {p : Pl} (h : R B w0 m σ w) (hf : Upd b w w') (hB : ¬ B b)
    (S : Sub m m') (hw : ∀ k, k < w0.n → m' k = m k) (hml : m' l = some p) (hp : p.blk = b) (hb : b < w'.heap.size)
    (hm : ∀ k q, m' k = some q → m k = some q ∨ (k = l ∧ q = p)) (hn : σ.next ≤ σ'.next) (hl : l < σ'.next)
    (hσ : ∀ k x, k ≠ l → σ'.get k = some x → σ.get k = some x ∧ ∀ q, m k = some q → q.blk ≠ b)
    (hσl : σ'.get l = some o) (ho : ObjR m' p o w') : R B w0 m' σ' w' := by
  have hold : ∀ k x, k ≠ l → σ'.get k = some x → ∃ q, m k = some q ∧ ObjR m q x w ∧ q.blk ≠ b ∧ q.blk < w.heap.size := fun k x hk hx => by
    obtain ⟨h1, h2⟩ := hσ k x hk hx
    obtain ⟨q, h3, h4⟩ := h.obj k x h1
    exact ⟨q, h3, h4, h2 q h3, (h.dom k q h3).2⟩
  refine ⟨fun k x hx => ?_, fun k q hq => ?_, fun k k' x x' q q' hne hx hx' hq hq' hrw => ?_, fun hpm k x q hx hrw hq => ?_, h.below.trans (hf.below hB h.base), fun k hk => Nat.lt_of_lt_of_le (h.base k hk) hf.size, Nat.le_trans h.oldn hn, fun k hk => (hw k hk).trans (h.old k hk)⟩
  · by_cases hk : k = l
    · subst hk; rw [hσl] at hx; cases hx; exact ⟨p, hml, ho⟩
    · obtain ⟨q, h1, h2, h3, h4⟩ := hold k x hk hx
      exact ⟨q, S _ _ h1, h2.mono S (hf.block _ h3 h4)⟩
  · rcases hm k q hq with h1 | ⟨h1, h2⟩
    · exact ⟨Nat.lt_of_lt_of_le (h.dom k q h1).1 hn, Nat.lt_of_lt_of_le (h.dom k q h1).2 hf.size⟩
    · subst h1 h2; exact ⟨hl, by omega⟩
  · by_cases hk : k = l
    · subst hk
      rw [hml] at hq; cases hq
      obtain ⟨q2, h1, h2, h3, h4⟩ := hold k' x' (Ne.symm hne) hx'
      rw [S _ _ h1] at hq'; cases hq'
      rw [hp]; exact Ne.symm h3
    · obtain ⟨q2, h1, h2, h3, h4⟩ := hold k x hk hx
      rw [S _ _ h1] at hq; cases hq
      by_cases hk' : k' = l
      · subst hk'; rw [hml] at hq'; cases hq'; rw [hp]; exact h3
      · obtain ⟨q3, g1, g2, g3, g4⟩ := hold k' x' hk' hx'
        rw [S _ _ g1] at hq'; cases hq'
        exact h.excl k k' x x' _ _ hne (hσ k x hk hx).1 (hσ k' x' hk' hx').1 h1 g1 hrw
  · by_cases hk : k = l
    · subst hk; rw [hml] at hq; cases hq; rw [hp]; exact hB
    · obtain ⟨q2, h1, h2, h3, h4⟩ := hold k x hk hx
      rw [S _ _ h1] at hq; cases hq
      exact h.own hpm k x _ (hσ k x hk hx).1 hrw h1

theorem R.drawn {B : Nat → Prop} {w0 : Base} {m : Nat → Option Pl} {σ : Heap} {w : World} (h : R B w0 m σ w) (n : Nat) : R B w0 m σ { w with drawn := n } :=
  ⟨fun l o hl => let ⟨p, h1, h2⟩ := h.obj l o hl; ⟨p, h1, h2.mono (Sub.refl m) rfl⟩, h.dom, h.excl, h.own, ⟨h.below.os, h.below.tape, h.below.output, h.below.size, h.below.block⟩, h.base, h.oldn, h.old⟩

def mset (m : Nat → Option Pl) (l : Nat) (p : Pl) : Nat → Option Pl := fun k => if k = l then some p else m k

theorem R.fresh {B : Nat → Prop} {w0 : Base} {m : Nat → Option Pl} {σ : Heap} {w : World} (h : R B w0 m σ w) : m σ.next = none := by
  cases hm : m σ.next with
  | none => rfl
  | some p => have := (h.dom _ _ hm).1; omega

theorem Sub.mset {m : Nat → Option Pl} {l : Nat} (h : m l = none) (p : Pl) : Sub m (mset m l p) := fun k q hk => by
  unfold A.mset; rw [if_neg (fun e => by subst e; rw [h] at hk; cases hk)]; exact hk

theorem mset_old (m : Nat → Option Pl) {n : Nat} (p : Pl) : ∀ k, k < n → mset m n p k = m k := fun k hk => by
  unfold A.mset; rw [if_neg (by omega)]

/-- Nothing abstract has lost: objects may go. -/
theorem R.kill {B : Nat → Prop} {w0 : Base} {m : Nat → Option Pl} {σ : Heap} {w : World} (h : R B w0 m σ w) (l : Nat) : R B w0 m (σ.kill l) w := by
  have hk : ∀ k x, (σ.kill l).get k = some x → σ.get k = some x := fun k x hx => by
    simp only [Heap.kill] at hx
    by_cases e : k = l
    · simp [e] at hx
    · simpa [e] using hx
  exact ⟨fun k x hx => h.obj k x (hk k x hx), h.dom, fun k k' x x' q q' hne hx hx' => h.excl k k' x x' q q' hne (hk _ _ hx) (hk _ _ hx'), fun hpm k x q hx => h.own hpm k x q (hk _ _ hx), h.below, h.base, h.oldn, h.old⟩

/-- A new object in a new block. -/
theorem R.new {B : Nat → Prop} {w0 : Base} {m : Nat → Option Pl} {σ : Heap} {w : World} (h : R B w0 m σ w) (o : AObj) (p : Pl) (ob : Obj) (n : Nat) (hp : p.blk = w.heap.size)
    (ho : ObjR (mset m σ.next p) p o { w with heap := w.heap.push ob, drawn := n }) : R B w0 (mset m σ.next p) (σ.new o) { w with heap := w.heap.push ob, drawn := n } := by
  refine R.upd (b := w.heap.size) (l := σ.next) (o := o) (p := p) h ⟨rfl, rfl, rfl, by simp, fun k hk hl => ?_⟩ (fun hb => absurd (h.base _ hb) (Nat.lt_irrefl _)) (Sub.mset h.fresh p) (fun k hk => mset_old m p k (Nat.lt_of_lt_of_le hk h.oldn)) (by simp [mset]) hp (by simp) (fun k q hq => ?_) (by simp [Heap.new]) (by simp [Heap.new])
    (fun k x hk hx => ?_) (by simp [Heap.new]) ho
  · show (w.heap.push ob)[k]? = _
    rw [Array.getElem?_push, if_neg (by omega)]
  · unfold A.mset at hq
    by_cases e : k = σ.next
    · rw [if_pos e] at hq; cases hq; exact .inr ⟨e, rfl⟩
    · rw [if_neg e] at hq; exact .inl hq
  · simp only [Heap.new, if_neg hk] at hx
    exact ⟨hx, fun q hq => by have := (h.dom k q hq).2; omega⟩

theorem R.loc_lt {B : Nat → Prop} {w0 : Base} {m : Nat → Option Pl} {σ : Heap} {w : World} (h : R B w0 m σ w) {l : Nat} {o : AObj} (hl : σ.get l = some o) : l < σ.next :=
  let ⟨p, h1, _⟩ := h.obj l o hl; (h.dom l p h1).1

theorem R.cell {B : Nat → Prop} {w0 : Base} {m : Nat → Option Pl} {σ : Heap} {w : World} (h : R B w0 m σ w) {l o : Nat} {a : AVal} (hc : σ.cell l o = some a) :
    ∃ p v, m l = some p ∧ w.cell? ⟨p.blk, p.start + o, none⟩ = some v ∧ VR m a v ∧ v.oneCell' = true := by
  unfold Heap.cell at hc
  cases hg : σ.get l with
  | none => simp [hg] at hc
  | some ob =>
    rw [hg] at hc
    cases ob with
    | map es => simp at hc
    | cells md sz cs =>
      obtain ⟨p, h1, c, e, fr, h2, h3, h4, h5, h6, h7, h8⟩ := h.obj l _ hg
      obtain ⟨v, k1, k2, k3⟩ := h8 o a hc
      exact ⟨p, v, h1, by simp [World.cell?, h2, k1], k2, k3⟩

/-! ### Values of one cell -/
def isScal : AVal → Bool
  | .agg _ => false
  | .tup _ => false
  | _ => true

theorem VR.one {m : Nat → Option Pl} : ∀ {a : AVal} {v : Value}, VR m a v → isScal a = true → v.oneCell' = true
  | .bool _, _, h, _ => by simp only [VR] at h; subst h; rfl
  | .int _ _, _, h, _ => by simp only [VR] at h; subst h; rfl
  | .str _, _, h, _ => by simp only [VR] at h; subst h; rfl
  | .ptr _ _, _, h, _ => by simp only [VR] at h; obtain ⟨p, _, rfl⟩ := h; rfl
  | .nilp, _, h, _ => by simp only [VR] at h; subst h; rfl
  | .sl _ _ _ _, _, h, _ => by simp only [VR] at h; obtain ⟨p, cv, o, _, _, _, _, _, rfl⟩ := h; rfl
  | .nils, _, h, _ => by simp only [VR] at h; subst h; rfl
  | .box _, _, h, _ => by simp only [VR] at h; obtain ⟨p, _, _, rfl⟩ := h; rfl
  | .map _, _, h, _ => by simp only [VR] at h; obtain ⟨p, _, rfl⟩ := h; rfl
  | .nilm, _, h, _ => by simp only [VR] at h; subst h; rfl
  | .fn _ _ _, _, h, _ => by simp only [VR] at h; obtain ⟨x, y, rfl, _⟩ := h; rfl
  | .nilf, _, h, _ => by simp only [VR] at h; subst h; rfl
  | .ifc _ _, _, h, _ => by simp only [VR] at h; obtain ⟨y, rfl, _⟩ := h; rfl
  | .nili, _, h, _ => by simp only [VR] at h; subst h; rfl
  | .agg _, _, _, h => by simp [isScal] at h
  | .tup _, _, _, h => by simp [isScal] at h

theorem cells_one {v : Value} (h : v.oneCell' = true) : v.cells = #[v] := by cases v <;> first | rfl | simp [Value.oneCell'] at h

theorem aOf_VR {m : Nat → Option Pl} {v : Value} {a : AVal} (h : aOf v = some a) : VR m a v ∧ isScal a = true := by
  unfold aOf at h
  split at h <;> first | (simp at h; subst h; simp [VR, isScal]; done) | cases h

theorem aOfs_VRs {m : Nat → Option Pl} : ∀ {vs : List Value} {as : List AVal}, aOfs vs = some as → VRs m as vs ∧ (∀ u ∈ vs, u.oneCell' = true)
  | [], _, h => by simp [aOfs] at h; subst h; simp [VRs]
  | v :: vs, as, h => by
    simp only [aOfs] at h
    split at h
    · rename_i a ha
      split at h
      · rename_i as' has
        simp at h; subst h
        obtain ⟨h1, h2⟩ := aOfs_VRs (m := m) has
        obtain ⟨h3, h4⟩ := aOf_VR (m := m) ha
        refine ⟨⟨v, vs, rfl, h3, h1⟩, fun u hu => ?_⟩
        rcases List.mem_cons.1 hu with e | e
        · subst e; exact h3.one h4
        · exact h2 u e
      · cases h
    · cases h

/-! ### Writing -/
theorem storeCells_run (P : Program) : ∀ (vs : List Value) (w : World) (b off i : Nat) (c : Array Value) (e : TypeId), w.heap[b]? = some (.cells c e (0, 0)) →
    (∀ v ∈ vs, v.oneCell' = true) → off + i + vs.length ≤ c.size →
    ∃ w' c', (storeCells ⟨b, off, none⟩ vs i).run P w = .ok () w' ∧ Upd b w w' ∧ w'.heap.size = w.heap.size ∧ w'.heap[b]? = some (.cells c' e (0, 0)) ∧ c'.size = c.size ∧
      ∀ j, c'[j]? = if off + i ≤ j ∧ j < off + i + vs.length then vs[j - (off + i)]? else c[j]?
  | [], w, b, off, i, c, e, h, _, _ => ⟨w, c, by simp [storeCells], ⟨rfl, rfl, rfl, Nat.le_refl _, fun _ _ _ => rfl⟩, rfl, h, rfl, fun j => by rw [if_neg (by simp)]⟩
  | v :: vs, w, b, off, i, c, e, h, hv, hn => by
    have hlen : off + i < c.size := by simp at hn; omega
    have hadd : (⟨b, off, none⟩ : Addr).add i = ⟨b, off + i, none⟩ := by
      unfold Addr.add; split <;> simp_all
    have hcell : w.cell? ⟨b, off + i, none⟩ = some c[off + i] := by simp [World.cell?, h, hlen]
    have hfr : w.frozen? ⟨b, off + i, none⟩ = false := by simp [World.frozen?, h]
    have hbs : b < w.heap.size := by
      rcases Nat.lt_or_ge b w.heap.size with h1 | h1
      · exact h1
      · rw [Array.getElem?_eq_none h1] at h; cases h
    have hset : (w.setCell ⟨b, off + i, none⟩ v).heap[b]? = some (.cells (c.setIfInBounds (off + i) v) e (0, 0)) := by
      simp [World.setCell, Array.getElem?_modify, h]
    have hU : Upd b w (w.setCell ⟨b, off + i, none⟩ v) := ⟨rfl, rfl, rfl, by simp [World.setCell], fun k hk _ => by
      simp only [World.setCell, Array.getElem?_modify]; rw [if_neg (by omega)]⟩
    obtain ⟨w', c', h1, h2, h3, h4, h5, h6⟩ := storeCells_run P vs (w.setCell ⟨b, off + i, none⟩ v) b off (i + 1) (c.setIfInBounds (off + i) v) e hset (fun u hu => hv u (by simp [hu])) (by simp at hn ⊢; omega)
    refine ⟨w', c', ?_, hU.trans h2, h3.trans (by simp [World.setCell]), h4, by simpa using h5, fun j => ?_⟩
    · simp only [storeCells, Sem.run_bind, hadd]
      rw [run_store P w _ v _ (hv v (by simp))]
      simp only [hcell, hfr]
      exact h1
    · rw [h6 j]
      by_cases hj : j = off + i
      · subst hj
        rw [if_neg (by omega), if_pos (by simp)]
        simp [hlen]
      · by_cases hj2 : off + i ≤ j ∧ j < off + i + (v :: vs).length
        · rw [if_pos (by simp at hj2 ⊢; omega), if_pos hj2]
          rw [show j - (off + i) = (j - (off + (i + 1))) + 1 by omega]
          simp
        · rw [if_neg (by simp at hj2 ⊢; omega), if_neg hj2]
          rw [Array.getElem?_setIfInBounds_ne (by omega)]

theorem splice_get {α : Type} (cs vs : List α) (o : Nat) (h : o + vs.length ≤ cs.length) (i : Nat) :
    (cs.take o ++ vs ++ cs.drop (o + vs.length))[i]? = if i < o then cs[i]? else if i < o + vs.length then vs[i - o]? else cs[i]? := by
  by_cases h1 : i < o
  · rw [if_pos h1, List.append_assoc, List.getElem?_append_left (by simp; omega), List.getElem?_take, if_pos h1]
  · rw [if_neg h1]
    by_cases h2 : i < o + vs.length
    · rw [if_pos h2, List.getElem?_append_left (by simp; omega), List.getElem?_append_right (by simp; omega)]
      congr 1; simp; omega
    · rw [if_neg h2, List.getElem?_append_right (by simp; omega), List.getElem?_drop]
      congr 1; simp; omega

theorem splice_len {α : Type} (cs vs : List α) (o : Nat) (h : o + vs.length ≤ cs.length) : (cs.take o ++ vs ++ cs.drop (o + vs.length)).length = cs.length := by
  simp; omega

/-- Cells of an object of one's own are written. -/
theorem R.store {B : Nat → Prop} {w0 : Base} {m : Nat → Option Pl} {σ : Heap} {w : World} (P : Program) (h : R B w0 m σ w) (hpm : w0.pm = false) {l sz o : Nat} {cs vs : List AVal} {us : List Value} {p : Pl}
    (hl : σ.get l = some (.cells .rw sz cs)) (hm : m l = some p) (hv : VRs m vs us) (h1 : ∀ u ∈ us, u.oneCell' = true) (hn : o + vs.length ≤ cs.length) :
    ∃ w', (storeCells ⟨p.blk, p.start + o, none⟩ us).run P w = .ok () w' ∧ R B w0 m (σ.set l (.cells .rw sz (cs.take o ++ vs ++ cs.drop (o + vs.length)))) w' := by
  obtain ⟨p', hm', c, e, fr, g1, g2, g3, g4, g5, g6, g7⟩ := h.obj l _ hl
  rw [hm] at hm'; cases hm'
  have hfr := g2 rfl; subst hfr
  have hlen := hv.length
  obtain ⟨w', c', k1, k2, k3, k4, k5, k6⟩ := storeCells_run P us w p.blk (p.start + o) 0 c e g1 h1 (by omega)
  refine ⟨w', k1, ?_⟩
  refine R.upd (b := p.blk) (l := l) (o := .cells .rw sz (cs.take o ++ vs ++ cs.drop (o + vs.length))) (p := p) h k2 (h.own hpm l _ p hl rfl hm) (Sub.refl m) (fun _ _ => rfl) hm rfl (by rw [k3]; exact (h.dom l p hm).2)
    (fun k q hq => .inl hq) (by simp [Heap.set]) (by simpa [Heap.set] using (h.dom l p hm).1) (fun k x hk hx => ?_) (by simp [Heap.set]) ?_
  · simp only [Heap.set, if_neg hk] at hx
    exact ⟨hx, fun q hq => Ne.symm (h.excl l k _ x p q (Ne.symm hk) hl hx hm hq rfl)⟩
  · refine ⟨c', e, (0, 0), k4, fun _ => rfl, g3, g4, by rw [splice_len _ _ _ hn]; exact g5, by rw [k5]; exact g6, fun i a hi => ?_⟩
    rw [splice_get _ _ _ hn] at hi
    rw [k6]
    by_cases i1 : i < o
    · rw [if_pos i1] at hi; rw [if_neg (by omega)]; exact g7 i a hi
    · rw [if_neg i1] at hi
      by_cases i2 : i < o + vs.length
      · rw [if_pos i2] at hi; rw [if_pos (by omega)]
        obtain ⟨u, q1, q2⟩ := hv.get _ _ hi
        rw [show p.start + i - (p.start + o + 0) = i - o by omega]
        exact ⟨u, q1, q2, h1 u (List.mem_of_getElem? q1)⟩
      · rw [if_neg i2] at hi; rw [if_neg (by omega)]; exact g7 i a hi

end Go.Proofs.YtgneblbblihaoaaDoor.A
