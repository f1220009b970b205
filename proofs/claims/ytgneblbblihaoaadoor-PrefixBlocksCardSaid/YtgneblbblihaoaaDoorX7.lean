/- Parts of the proof, one behind another. -/
import Derived.Test.YtgneblbblihaoaaDoorX1
import Derived.Test.YtgneblbblihaoaaDoorX0
import Derived.Test.YtgneblbblihaoaaDoorX6
import Derived.Test.YtgneblbblihaoaaDoorX4
set_option linter.all false
/- Views of abstract heaps: lists behind slices; what was there stays. -/
namespace Go.Proofs.YtgneblbblihaoaaDoor.A
open Go

theorem wrapS {n : Int} (h0 : -9223372036854775808 ≤ n) (h1 : n < 9223372036854775808) : IntKind.i64.wrap n = n := by
  rw [IntKind.wrap_i64]; omega

theorem hnew_get (σ : Heap) (o : AObj) (k : Nat) : (σ.new o).get k = if k = σ.next then some o else σ.get k := rfl
theorem hkill_get (σ : Heap) (l k : Nat) : (σ.kill l).get k = if k = l then none else σ.get k := rfl
theorem hset_get (σ : Heap) (l k : Nat) (o : AObj) : (σ.set l o).get k = if k = l then some o else σ.get k := rfl
theorem hkill_next (σ : Heap) (l : Nat) : (σ.kill l).next = σ.next := rfl
theorem hset_next (σ : Heap) (l : Nat) (o : AObj) : (σ.set l o).next = σ.next := rfl
theorem hnew_next (σ : Heap) (o : AObj) : (σ.new o).next = σ.next + 1 := rfl

/-- What was there is there, unchanged. -/
structure Hle (σ τ : Heap) : Prop where
  next : σ.next ≤ τ.next
  get : ∀ l o, l < σ.next → σ.get l = some o → τ.get l = some o
section
variable {σ τ υ : Heap} {l : Nat} {o : AObj}
theorem Hle.refl (σ : Heap) : Hle σ σ := ⟨Nat.le_refl _, fun _ _ _ h => h⟩
theorem Hle.trans (h : Hle σ τ) (k : Hle τ υ) : Hle σ υ := ⟨Nat.le_trans h.next k.next, fun l o hl hg => k.get l o (Nat.lt_of_lt_of_le hl h.next) (h.get l o hl hg)⟩
theorem Hle.new (h : Hle σ τ) (o : AObj) : Hle σ (τ.new o) := ⟨Nat.le_succ_of_le h.next, fun l x hl hg => by
  have := h.next
  simp only [Heap.new]; rw [if_neg (by omega)]; exact h.get l x hl hg⟩
theorem Hle.set (h : Hle σ τ) (hl : σ.next ≤ l) (o : AObj) : Hle σ (τ.set l o) := ⟨h.next, fun k x hk hg => by
  simp only [Heap.set]; rw [if_neg (by omega)]; exact h.get k x hk hg⟩
theorem Hle.kill (h : Hle σ τ) (hl : σ.next ≤ l) : Hle σ (τ.kill l) := ⟨h.next, fun k x hk hg => by
  simp only [Heap.kill]; rw [if_neg (by omega)]; exact h.get k x hk hg⟩
theorem Hle.of_kill (σ : Heap) (l : Nat) : Hle (σ.kill l) σ := ⟨Nat.le_refl _, fun k x _ hg => by
  simp only [Heap.kill] at hg; split at hg
  · cases hg
  · exact hg⟩
theorem Hle.kill_set (σ : Heap) (l : Nat) (o : AObj) : Hle (σ.kill l) (σ.set l o) := ⟨Nat.le_refl _, fun k x _ hg => by
  simp only [Heap.kill] at hg; split at hg
  · cases hg
  · rename_i h; simp only [Heap.set]; rw [if_neg h]; exact hg⟩
theorem Hle.killed (h : Hle σ τ) (l : Nat) : Hle (σ.kill l) (τ.kill l) := ⟨h.next, fun k x hk hg => by
  simp only [Heap.kill] at hg ⊢; split at hg
  · cases hg
  · rename_i h1; rw [if_neg h1]; exact h.get k x hk hg⟩
theorem Hle.kill_kill_set (σ : Heap) (l : Nat) (o : AObj) : Hle (σ.kill l) ((σ.set l o).kill l) := ⟨Nat.le_refl _, fun k x _ hg => by
  simp only [Heap.kill] at hg ⊢; split at hg
  · cases hg
  · rename_i h; simp only [Heap.set, if_neg h]; exact hg⟩
end

section
variable {σ τ : Heap} {p : AVal} {as0 : List AVal} {l o k n : Nat} {a : AVal}
/-- Cells at a pointer. -/
def At (σ : Heap) (p : AVal) (as0 : List AVal) : Prop := ∃ l o md sz cs, p = .ptr l o ∧ l < σ.next ∧ σ.get l = some (.cells md sz cs) ∧ o + as0.length ≤ cs.length ∧ (cs.drop o).take as0.length = as0
theorem At.mono (h : At σ p as0) (L : Hle σ τ) : At τ p as0 := by
  obtain ⟨l, o, md, sz, cs, h1, h2, h3, h4, h5⟩ := h
  exact ⟨l, o, md, sz, cs, h1, Nat.lt_of_lt_of_le h2 L.next, L.get _ _ h2 h3, h4, h5⟩
theorem At.new (σ : Heap) (sz : Nat) (cs : List AVal) : At (σ.new (.cells .rw sz cs)) (.ptr σ.next 0) cs :=
  ⟨_, 0, .rw, sz, cs, rfl, Nat.lt_succ_self _, by simp [Heap.new], by simp, by simp⟩
theorem At.of_get {md : Md} {sz : Nat} (hl : l < σ.next) (h : σ.get l = some (.cells md sz as0)) : At σ (.ptr l 0) as0 := ⟨_, 0, md, sz, as0, rfl, hl, h, by simp, by simp⟩
theorem At.drop (h : At σ (.ptr l o) as0) (k : Nat) (hk : k ≤ as0.length) : At σ (.ptr l (o + k)) (as0.drop k) := by
  obtain ⟨l', o', md, sz, cs, h1, h2, h3, h4, h5⟩ := h
  cases h1
  refine ⟨l, o + k, md, sz, cs, rfl, h2, h3, by simp; omega, ?_⟩
  conv => rhs; rw [← h5]
  rw [List.drop_take, List.drop_drop, List.length_drop]
theorem At.take (h : At σ p as0) (k : Nat) (hk : k ≤ as0.length) : At σ p (as0.take k) := by
  obtain ⟨l', o', md, sz, cs, h1, h2, h3, h4, h5⟩ := h
  refine ⟨l', o', md, sz, cs, h1, h2, h3, by simp; omega, ?_⟩
  conv => rhs; rw [← h5]
  rw [List.take_take, List.length_take]
theorem At.fld (h : At σ p as0) (k : Nat) (hk : k ≤ as0.length) : ∃ q, (∀ {Rt : Type} (K : AVal → Option Rt), fld p k K = K q) ∧ At σ q (as0.drop k) := by
  obtain ⟨l, o, md, sz, cs, rfl, h2⟩ := id h
  exact ⟨.ptr l (o + k), fun K => rfl, h.drop k hk⟩
theorem At.cell {l o : Nat} (h : At σ (.ptr l o) as0) (hk : as0[k]? = some a) : σ.cell l (o + k) = some a := by
  obtain ⟨l', o', md, sz, cs, h1, h2, h3, h4, h5⟩ := h
  cases h1
  have hlt := (List.getElem?_eq_some_iff.1 hk).1
  have : ((cs.drop o).take as0.length)[k]? = some a := by rw [h5, hk]
  rw [List.getElem?_take_of_lt hlt, List.getElem?_drop] at this
  simp only [Heap.cell, h3, this]
theorem At.ld {Rt : Type} {kd : Kd} (h : At σ p (a :: as0)) (K : kd.ty → Option Rt) : ld σ p kd K = asK kd a K := by
  obtain ⟨l, o, _, _, _, rfl, _⟩ := id h
  have := h.cell (k := 0) (a := a) rfl
  rw [Nat.add_zero] at this
  simp only [A.ld, this]
theorem At.ld0 {Rt : Type} {kd : Kd} (h : At σ (.ptr l 0) as0) (hk : as0[k]? = some a) (K : kd.ty → Option Rt) : A.ld σ (.ptr l k) kd K = asK kd a K := by
  have := h.cell hk
  rw [Nat.zero_add] at this
  simp only [A.ld, this]
theorem At.ldG {Rt : Type} (h : At σ p as0) (hn : n = as0.length) (K : AVal → Option Rt) : ldG σ p n K = K (.agg as0) := by
  obtain ⟨l, o, md, sz, cs, rfl, h2, h3, h4, h5⟩ := h
  subst hn
  simp only [A.ldG, h3, if_pos h4, h5]
end

/-- How a datum stands in cells. -/
structure Vw (α : Type) where
  sz : Nat
  rel : Heap → α → List AVal → Prop
  pos : 0 < sz
  len : ∀ {σ a as0}, rel σ a as0 → as0.length = sz
  mono : ∀ {σ τ a as0}, Hle σ τ → rel σ a as0 → rel τ a as0

variable {α β : Type}
/-- A slice of data. -/
def SlV (v : Vw α) (σ : Heap) (xs : List α) (x : AVal) : Prop := (x = .nils ∧ xs = []) ∨ ∃ l off c md cs, x = .sl l off xs.length c ∧ l < σ.next ∧ σ.get l = some (.cells md v.sz cs) ∧
  (off + xs.length) * v.sz ≤ cs.length ∧ ∀ i a, xs[i]? = some a → v.rel σ a ((cs.drop ((off + i) * v.sz)).take v.sz)
def Vw.int : Vw Int := ⟨1, fun _ a as0 => as0 = [.int .i64 a], Nat.one_pos, fun h => by rw [h]; rfl, fun _ h => h⟩
def Vw.bool : Vw Bool := ⟨1, fun _ a as0 => as0 = [.bool a], Nat.one_pos, fun h => by rw [h]; rfl, fun _ h => h⟩
def Vw.pair (v : Vw α) (w : Vw β) : Vw (α × β) := ⟨v.sz + w.sz, fun σ ab as0 => ∃ as1 as2, as0 = as1 ++ as2 ∧ v.rel σ ab.1 as1 ∧ w.rel σ ab.2 as2, Nat.add_pos_left v.pos _, fun h => by
  obtain ⟨_, _, rfl, h1, h2⟩ := h
  rw [List.length_append, v.len h1, w.len h2], fun L h => by
  obtain ⟨a, b, e, h1, h2⟩ := h
  exact ⟨a, b, e, v.mono L h1, w.mono L h2⟩⟩

section
variable {v : Vw α} {σ τ : Heap} {xs ys : List α} {x w : AVal}
theorem SlV.mono (h : SlV v σ xs x) (L : Hle σ τ) : SlV v τ xs x := by
  rcases h with h | ⟨l, off, c, md, cs, h1, h2, h3, h4, h5⟩
  · exact .inl h
  · exact .inr ⟨l, off, c, md, cs, h1, Nat.lt_of_lt_of_le h2 L.next, L.get _ _ h2 h3, h4, fun i a ha => v.mono L (h5 i a ha)⟩
theorem SlV.nil (v : Vw α) (σ : Heap) : SlV v σ [] .nils := .inl ⟨rfl, rfl⟩
def Vw.sl (v : Vw α) : Vw (List α) := ⟨1, fun σ xs as0 => ∃ x, as0 = [x] ∧ SlV v σ xs x, Nat.one_pos, fun h => by obtain ⟨_, rfl, _⟩ := h; rfl, fun L h => by
  obtain ⟨x, e, h⟩ := h
  exact ⟨x, e, h.mono L⟩⟩
theorem SlV.len {Rt : Type} (h : SlV v σ xs x) (K : Int → Option Rt) : lenV x K = K (xs.length : Int) := by
  rcases h with ⟨rfl, rfl⟩ | ⟨l, off, c, md, cs, rfl, _⟩ <;> rfl
theorem SlV.scal {Rt : Type} (h : SlV v σ xs x) (X : Option Rt) : scal x X = X := by
  rcases h with ⟨rfl, rfl⟩ | ⟨l, off, c, md, cs, rfl, _⟩ <;> rfl
theorem SlV.ix {i : Nat} {a : α} (h : SlV v σ xs x) (hi : xs[i]? = some a) : ∃ p as0, At σ p as0 ∧ v.rel σ a as0 ∧ ∀ {τ : Heap}, Hle σ τ → ∀ {Rt : Type} (K : AVal → Option Rt), ixA τ x v.sz (i : Int) K = K p := by
  rcases h with ⟨rfl, rfl⟩ | ⟨l, off, c, md, cs, rfl, h2, h3, h4, h5⟩
  · simp at hi
  · have hlt := (List.getElem?_eq_some_iff.1 hi).1
    have hr := h5 i a hi
    have hle : (off + i) * v.sz + v.sz ≤ cs.length := Nat.le_trans (by rw [← Nat.succ_mul]; exact Nat.mul_le_mul_right _ (by omega)) h4
    refine ⟨.ptr l ((off + i) * v.sz), _, ⟨l, (off + i) * v.sz, md, v.sz, cs, rfl, h2, h3, by rw [v.len hr]; exact hle, by rw [v.len hr]⟩, hr, fun {τ} L {_} K => ?_⟩
    simp only [ixA, L.get _ _ h2 h3]
    rw [if_pos ⟨trivial, by omega, by omega⟩, Int.toNat_natCast]
theorem SlV.src (h : SlV v σ ys w) : ∃ cs, (∀ {Rt : Type} (K : List AVal → Nat → Option Rt), srcK σ v.sz w K = K cs ys.length) ∧ cs.length = ys.length * v.sz ∧ ∀ i a, ys[i]? = some a → v.rel σ a ((cs.drop (i * v.sz)).take v.sz) := by
  rcases h with ⟨rfl, rfl⟩ | ⟨l, off, c, md, cs, rfl, h2, h3, h4, h5⟩
  · exact ⟨[], fun K => rfl, by simp, fun i a h => by simp at h⟩
  · refine ⟨(cs.drop (off * v.sz)).take (ys.length * v.sz), fun K => ?_, ?_, fun i a hi => ?_⟩
    · simp only [srcK, h3]; rw [if_pos ⟨trivial, h4⟩]
    · have : (off + ys.length) * v.sz = off * v.sz + ys.length * v.sz := Nat.add_mul ..
      rw [List.length_take, List.length_drop]; omega
    · have hlt := (List.getElem?_eq_some_iff.1 hi).1
      have e : (i + 1) * v.sz ≤ ys.length * v.sz := Nat.mul_le_mul_right _ hlt
      rw [Nat.add_mul, Nat.one_mul] at e
      rw [List.drop_take, List.drop_drop, List.take_take, Nat.min_eq_left (by omega), ← Nat.add_mul]
      exact h5 i a hi

/-- The heap without the object of a slice. -/
def out (σ : Heap) : AVal → Heap
  | .sl l _ _ _ => σ.kill l
  | _ => σ
/-- A slice of one's own, to be appended to. -/
def Acc (v : Vw α) (n0 : Nat) (σ : Heap) (xs : List α) (x : AVal) : Prop := (x = .nils ∧ xs = []) ∨ ∃ l cs, x = .sl l 0 xs.length none ∧ n0 ≤ l ∧ l < σ.next ∧ σ.get l = some (.cells .rw v.sz cs) ∧
  xs.length * v.sz ≤ cs.length ∧ ∀ i a, xs[i]? = some a → v.rel (σ.kill l) a ((cs.drop (i * v.sz)).take v.sz)
theorem Hle.out (σ : Heap) (x : AVal) : Hle (out σ x) σ := by
  cases x <;> first | exact Hle.refl _ | exact Hle.of_kill ..
theorem Hle.outs (h : Hle σ τ) (x : AVal) : Hle (A.out σ x) (A.out τ x) := by
  cases x <;> first | exact h | exact h.killed _
theorem out_next (σ : Heap) (x : AVal) : (out σ x).next = σ.next := by cases x <;> rfl
theorem Acc.nil (v : Vw α) (n0 : Nat) (σ : Heap) : Acc v n0 σ [] .nils := .inl ⟨rfl, rfl⟩
theorem Acc.sl {n0 : Nat} (h : Acc v n0 σ xs x) : SlV v σ xs x := by
  rcases h with h | ⟨l, cs, rfl, _, h2, h3, h4, h5⟩
  · exact .inl h
  · exact .inr ⟨l, 0, none, .rw, cs, rfl, h2, h3, by simpa using h4, fun i a hi => by rw [Nat.zero_add]; exact v.mono (Hle.of_kill _ _) (h5 i a hi)⟩
theorem Acc.mono {n0 : Nat} (h : Acc v n0 σ xs x) (L : Hle σ τ) : Acc v n0 τ xs x := by
  rcases h with h | ⟨l, cs, h1, h2, h3, h4, h5, h6⟩
  · exact .inl h
  · exact .inr ⟨l, cs, h1, h2, Nat.lt_of_lt_of_le h3 L.next, L.get _ _ h3 h4, h5, fun i a hi => v.mono (L.killed l) (h6 i a hi)⟩
theorem Acc.out_le {σ0 : Heap} (h : Acc v σ0.next σ xs x) (L : Hle σ0 σ) : Hle σ0 (out σ x) := by
  rcases h with ⟨rfl, _⟩ | ⟨l, cs, rfl, h2, _⟩
  · exact L
  · exact L.kill h2
theorem Acc.len {Rt : Type} {n0 : Nat} (h : Acc v n0 σ xs x) (K : Int → Option Rt) : lenV x K = K (xs.length : Int) := h.sl.len K

theorem append_rel {v : Vw α} {σ : Heap} {xs ys : List α} {cs ds : List AVal} (hc : cs.length = xs.length * v.sz) (h1 : ∀ i a, xs[i]? = some a → v.rel σ a ((cs.drop (i * v.sz)).take v.sz)) (h2 : ∀ i a, ys[i]? = some a → v.rel σ a ((ds.drop (i * v.sz)).take v.sz)) (es : List AVal)
    (hd : ds.length = ys.length * v.sz) : ∀ i a, (xs ++ ys)[i]? = some a → v.rel σ a (((cs ++ ds ++ es).drop (i * v.sz)).take v.sz) := by
  intro i a hi
  by_cases h : i < xs.length
  · rw [List.getElem?_append_left h] at hi
    have := h1 i a hi
    have e : (i + 1) * v.sz ≤ xs.length * v.sz := Nat.mul_le_mul_right _ h
    rw [Nat.add_mul, Nat.one_mul] at e
    rw [List.append_assoc, List.drop_append_of_le_length (by omega), List.take_append_of_le_length (by simp; omega)]
    exact this
  · rw [List.getElem?_append_right (by omega)] at hi
    have := h2 _ a hi
    have hlt := (List.getElem?_eq_some_iff.1 hi).1
    have e0 : i * v.sz = cs.length + (i - xs.length) * v.sz := by rw [hc, ← Nat.add_mul]; congr 1; omega
    have e : (i - xs.length + 1) * v.sz ≤ ys.length * v.sz := Nat.mul_le_mul_right _ hlt
    rw [Nat.add_mul, Nat.one_mul] at e
    rw [List.append_assoc, e0, ← List.drop_drop, List.drop_left, List.drop_append_of_le_length (by omega), List.take_append_of_le_length (by simp; omega)]
    exact this

theorem Acc.app {σ0 : Heap} {bytes : Nat} (h : Acc v σ0.next σ xs x) (L : Hle σ0 σ) (hs : SlV v (out σ x) ys w) (hb : (xs.length + ys.length) * bytes ≤ 70368744177664) (hb' : xs.length + ys.length ≤ 70368744177664) :
    ∃ x' σ', (∀ {Rt : Type} (K : AVal → Heap → Option Rt), appS σ v.sz bytes x w K = K x' σ') ∧ Hle σ0 σ' ∧ Acc v σ0.next σ' (xs ++ ys) x' ∧ Hle (out σ x) (out σ' x') := by
  obtain ⟨ds, e1, d1, d2⟩ := hs.src
  have e1' : ∀ {Rt : Type} (K : List AVal → Nat → Option Rt), srcK σ v.sz w K = K ds ys.length := by
    rcases hs with ⟨rfl, rfl⟩ | ⟨l, off, c, md, cs, rfl, h2, h3, h4, h5⟩
    · exact fun K => e1 K
    · intro Rt K
      rw [← e1 K]
      simp only [srcK, h3, (Hle.out σ x).get _ _ h2 h3]
  rcases h with ⟨rfl, rfl⟩ | ⟨l, cs, rfl, h2, h3, h4, h5, h6⟩
  · by_cases h0 : ys.length = 0
    · have : ys = [] := List.eq_nil_of_length_eq_zero h0
      subst this
      exact ⟨.nils, σ, fun K => by simp only [appS, e1', appC]; rw [if_pos h0], L, .inl ⟨rfl, rfl⟩, Hle.refl _⟩
    · refine ⟨.sl σ.next 0 ys.length none, σ.new (.cells .rw v.sz ds), fun K => ?_, L.new _, .inr ⟨σ.next, ds, by simp, L.next, Nat.lt_succ_self _, by simp [Heap.new], by simp [d1], fun i a hi => ?_⟩, ?_⟩
      · simp only [appS, e1', appC, newK]
        simp only [List.length_nil, Nat.zero_add] at hb hb'
        rw [if_neg h0, if_pos ⟨hb, hb'⟩]
      · rw [List.nil_append] at hi
        refine v.mono ?_ (d2 i a hi)
        exact ⟨Nat.le_succ _, fun k y hk hg => by simp only [A.out] at hk; simp only [Heap.kill, Heap.new]; rw [if_neg (by omega), if_neg (by omega)]; exact hg⟩
      · exact ⟨Nat.le_succ _, fun k y hk hg => by simp only [A.out] at hk hg ⊢; simp only [Heap.kill, Heap.new]; rw [if_neg (by omega), if_neg (by omega)]; exact hg⟩
  · simp only [A.out] at hs d2 ⊢
    by_cases h0 : ys.length = 0
    · have : ys = [] := List.eq_nil_of_length_eq_zero h0
      subst this
      refine ⟨_, σ, fun K => by simp only [appS, e1', appC, h4]; rw [if_pos ⟨trivial, v.pos, by simpa using h5⟩, if_pos h0], L, .inr ⟨l, cs, by simp, h2, h3, h4, by simpa using h5, fun i a hi => h6 i a (by simpa using hi)⟩, Hle.refl _⟩
    · by_cases hroom : (xs.length + ys.length) * v.sz ≤ cs.length
      · have ea : (xs.length + ys.length) * v.sz = xs.length * v.sz + ys.length * v.sz := Nat.add_mul ..
        refine ⟨.sl l 0 (xs.length + ys.length) none, σ.set l (.cells .rw v.sz (cs.take (xs.length * v.sz) ++ ds ++ cs.drop ((xs.length + ys.length) * v.sz))), fun K => ?_, L.set h2 _, .inr ⟨l, cs.take (xs.length * v.sz) ++ ds ++ cs.drop ((xs.length + ys.length) * v.sz), by simp, h2, h3, by simp [Heap.set], by simp; omega, ?_⟩, Hle.kill_kill_set ..⟩
        · simp only [appS, e1', appC, h4, Nat.zero_add]
          rw [if_pos ⟨trivial, v.pos, h5⟩, if_neg h0, if_pos ⟨hb, hb'⟩]
          simp only [if_true]
          rw [if_pos hroom]
        · refine append_rel (by simp; omega) (fun i a hi => ?_) (fun i a hi => v.mono (Hle.kill_kill_set ..) (d2 i a hi)) (cs.drop ((xs.length + ys.length) * v.sz)) d1
          have hlt := (List.getElem?_eq_some_iff.1 hi).1
          have e : (i + 1) * v.sz ≤ xs.length * v.sz := Nat.mul_le_mul_right _ hlt
          rw [Nat.add_mul, Nat.one_mul] at e
          rw [List.drop_take, List.take_take, Nat.min_eq_left (by omega)]
          exact v.mono (Hle.kill_kill_set ..) (h6 i a hi)
      · refine ⟨.sl σ.next 0 (xs.length + ys.length) none, (σ.kill l).new (.cells .rw v.sz (cs.take (xs.length * v.sz) ++ ds)), fun K => ?_, (L.kill h2).new _, .inr ⟨σ.next, cs.take (xs.length * v.sz) ++ ds, by simp, L.next, Nat.lt_succ_self _, by simp [Heap.new, Heap.kill], by simp [Nat.add_mul]; omega, ?_⟩, ?_⟩
        · simp only [appS, e1', appC, h4, Nat.zero_add]
          rw [if_pos ⟨trivial, v.pos, h5⟩, if_neg h0, if_pos ⟨hb, hb'⟩]
          simp only [if_true]
          rw [if_neg hroom]
          simp only [newK, Nat.zero_mul, List.drop_zero]
          rfl
        · have Lk : Hle (σ.kill l) (((σ.kill l).new (.cells .rw v.sz (cs.take (xs.length * v.sz) ++ ds))).kill σ.next) :=
            ⟨Nat.le_succ _, fun k y hk hg => by
              have hk : k < σ.next := hk
              have hne : k ≠ σ.next := by omega
              have hne2 : k ≠ (σ.kill l).next := hne
              rw [hkill_get, if_neg hne, hnew_get, if_neg (show ¬ k = (σ.kill l).next from hne)]; exact hg⟩
          have := append_rel (v := v) (σ := ((σ.kill l).new (.cells .rw v.sz (cs.take (xs.length * v.sz) ++ ds))).kill σ.next) (xs := xs) (ys := ys) (cs := cs.take (xs.length * v.sz)) (ds := ds) (by simp; omega) (fun i a hi => ?_) (fun i a hi => v.mono Lk (d2 i a hi)) [] d1
          · simpa using this
          · have hlt := (List.getElem?_eq_some_iff.1 hi).1
            have e : (i + 1) * v.sz ≤ xs.length * v.sz := Nat.mul_le_mul_right _ hlt
            rw [Nat.add_mul, Nat.one_mul] at e
            rw [List.drop_take, List.take_take, Nat.min_eq_left (by omega)]
            exact v.mono Lk (h6 i a hi)
        · exact ⟨Nat.le_succ _, fun k y hk hg => by
            have hk : k < σ.next := hk
            have hne : k ≠ σ.next := by omega
            show (((σ.kill l).new _).kill σ.next).get k = _; rw [hkill_get, if_neg hne, hnew_get, if_neg (show ¬ k = (σ.kill l).next from hne)]; exact hg⟩
end

section
variable {v : Vw α} {σ τ : Heap} {xs ys : List α} {x w : AVal} {n0 i : Nat} {a : α}
/-- An element of one's own slice: where it is, and what comes of a store. -/
theorem Acc.at (h : Acc v n0 σ xs x) (hi : xs[i]? = some a) : ∃ l o as0, (∀ {Rt : Type} (K : AVal → Option Rt), ixA σ x v.sz (i : Int) K = K (.ptr l o)) ∧ At σ (.ptr l o) as0 ∧ v.rel (out σ x) a as0 ∧
    ∀ k vs a', k + vs.length ≤ v.sz → v.rel (out σ x) a' (as0.take k ++ vs ++ as0.drop (k + vs.length)) →
      ∃ τ, (∀ {Rt : Type} (K : Heap → Option Rt), stC σ (.ptr l (o + k)) vs K = K τ) ∧ Acc v n0 τ (xs.set i a') x ∧ (∀ σ0 : Heap, σ0.next ≤ n0 → Hle σ0 σ → Hle σ0 τ) ∧ Hle (out σ x) (out τ x) ∧ τ.next = σ.next := by
  rcases h with ⟨rfl, rfl⟩ | ⟨l, cs, rfl, h2, h3, h4, h5, h6⟩
  · simp at hi
  · have hlt := (List.getElem?_eq_some_iff.1 hi).1
    have hr := h6 i a hi
    have hln := v.len hr
    have e : (i + 1) * v.sz ≤ xs.length * v.sz := Nat.mul_le_mul_right _ hlt
    rw [Nat.add_mul, Nat.one_mul] at e
    refine ⟨l, i * v.sz, (cs.drop (i * v.sz)).take v.sz, fun K => ?_, ⟨l, i * v.sz, .rw, v.sz, cs, rfl, h3, h4, by rw [hln]; omega, by rw [hln]⟩, hr, fun k vs a' hk hr' => ?_⟩
    · simp only [ixA, h4]
      rw [if_pos ⟨trivial, by omega, by omega⟩, Int.toNat_natCast, Nat.zero_add]
    · let cs' := cs.take (i * v.sz + k) ++ vs ++ cs.drop (i * v.sz + k + vs.length)
      refine ⟨σ.set l (.cells .rw v.sz cs'), fun K => ?_, .inr ⟨l, cs', by simp, h2, h3, by simp [Heap.set], by simp [cs']; omega, fun j b hj => ?_⟩, fun σ0 h0 L => L.set (by omega) _, Hle.kill_kill_set .., rfl⟩
      · simp only [stC, h4]
        rw [if_pos (by omega)]
      · refine v.mono (Hle.kill_kill_set ..) ?_
        rw [List.getElem?_set] at hj
        by_cases hij : i = j
        · subst hij
          rw [if_pos rfl, if_pos hlt] at hj
          cases hj
          have : (cs'.drop (i * v.sz)).take v.sz = ((cs.drop (i * v.sz)).take v.sz).take k ++ vs ++ ((cs.drop (i * v.sz)).take v.sz).drop (k + vs.length) := by
            apply List.ext_getElem? fun q => ?_
            simp only [cs']
            by_cases q1 : q < v.sz
            · rw [List.getElem?_take_of_lt q1, List.getElem?_drop]
              by_cases q2 : q < k
              · rw [List.append_assoc, List.append_assoc, List.getElem?_append_left (by simp; omega), List.getElem?_append_left (by simp; omega), List.getElem?_take_of_lt (by omega), List.getElem?_take_of_lt q2, List.getElem?_take_of_lt q1, List.getElem?_drop]
              · by_cases q3 : q < k + vs.length
                · rw [List.getElem?_append_left (by simp; omega), List.getElem?_append_right (by simp; omega), List.getElem?_append_left (by simp; omega), List.getElem?_append_right (by simp; omega)]
                  congr 1; simp; omega
                · rw [List.getElem?_append_right (by simp; omega), List.getElem?_append_right (by simp; omega), List.getElem?_drop, List.getElem?_drop, List.getElem?_take_of_lt (by simp; omega), List.getElem?_drop]
                  congr 1; simp; omega
            · rw [List.getElem?_eq_none (by simp; omega), List.getElem?_eq_none (by simp; omega)]
          rw [this]; exact hr'
        · rw [if_neg hij] at hj
          have hjl := (List.getElem?_eq_some_iff.1 hj).1
          have e2 : (j + 1) * v.sz ≤ xs.length * v.sz := Nat.mul_le_mul_right _ hjl
          rw [Nat.add_mul, Nat.one_mul] at e2
          have : (cs'.drop (j * v.sz)).take v.sz = (cs.drop (j * v.sz)).take v.sz := by
            apply List.ext_getElem? fun q => ?_
            by_cases q1 : q < v.sz
            · rw [List.getElem?_take_of_lt q1, List.getElem?_take_of_lt q1, List.getElem?_drop, List.getElem?_drop]
              simp only [cs']
              rcases Nat.lt_or_gt_of_ne hij with hlt' | hgt
              · have e3 : (i + 1) * v.sz ≤ j * v.sz := Nat.mul_le_mul_right _ hlt'
                rw [Nat.add_mul, Nat.one_mul] at e3
                rw [List.getElem?_append_right (by simp; omega), List.getElem?_drop]
                congr 1; simp; omega
              · have e3 : (j + 1) * v.sz ≤ i * v.sz := Nat.mul_le_mul_right _ hgt
                rw [Nat.add_mul, Nat.one_mul] at e3
                rw [List.append_assoc, List.getElem?_append_left (by simp; omega), List.getElem?_take_of_lt (by omega)]
            · rw [List.getElem?_eq_none (by simp; omega), List.getElem?_eq_none (by simp; omega)]
          rw [this]; exact h6 j b hj

/-- Data without places. -/
def Vw.Flat (v : Vw α) : Prop := ∀ σ τ a as0, v.rel σ a as0 → v.rel τ a as0
theorem Vw.int_flat : Vw.int.Flat := fun _ _ _ _ h => h
theorem Vw.bool_flat : Vw.bool.Flat := fun _ _ _ _ h => h
theorem SlV.flat {σ τ : Heap} (hf : v.Flat) (h : SlV v σ xs x) (hn : σ.next ≤ τ.next) (hg : ∀ l off len c, x = .sl l off len c → τ.get l = σ.get l) : SlV v τ xs x := by
  rcases h with h | ⟨l, off, c, md, cs, rfl, h2, h3, h4, h5⟩
  · exact .inl h
  · exact .inr ⟨l, off, c, md, cs, rfl, by omega, by rw [hg _ _ _ _ rfl]; exact h3, h4, fun i a ha => hf _ _ _ _ (h5 i a ha)⟩
/-- A newer slice of plain data is there without an older object. -/
theorem Acc.sl_out {v : Vw β} {ys : List β} {y : AVal} {w : Vw α} (hf : v.Flat) (h : Acc v n0 τ ys y) (hx : Acc w i σ xs x) (hn : σ.next ≤ n0) : SlV v (out τ x) ys y := by
  rcases hx with ⟨rfl, _⟩ | ⟨l, cs, rfl, h1, h2, _⟩
  · exact h.sl
  · refine h.sl.flat hf (Nat.le_refl _) fun l' off len c e => ?_
    rcases h with ⟨rfl, _⟩ | ⟨k, ds, rfl, k1, _⟩
    · cases e
    · cases e
      show (τ.kill l).get l' = _
      rw [hkill_get, if_neg (by omega)]
end

/-- A loop that counts. -/
theorem loopW_inv {X Y : Type} {f : X → Heap → Option ((X ⊕ Y) × Heap)} (n : Nat) (Inv : Nat → X → Heap → Prop) (Q : Y → Heap → Prop)
    (step : ∀ i x σ, i < n → Inv i x σ → (∃ x' σ', f x σ = some (.inl x', σ') ∧ Inv (i + 1) x' σ') ∨ ∃ y σ', f x σ = some (.inr y, σ') ∧ Q y σ')
    (stop : ∀ x σ, Inv n x σ → ∃ y σ', f x σ = some (.inr y, σ') ∧ Q y σ') {x : X} {σ : Heap} (h : Inv 0 x σ) : ∃ y σ', loopW f x σ = some (y, σ') ∧ Q y σ' := by
  have : ∀ k i x σ, i + k = n → Inv i x σ → ∃ y σ', loopW f x σ = some (y, σ') ∧ Q y σ' := by
    intro k
    induction k with
    | zero =>
      intro i x σ hi h
      obtain rfl : i = n := by omega
      obtain ⟨y, σ', h1, h2⟩ := stop x σ h
      exact ⟨y, σ', loopW_stop h1, h2⟩
    | succ k ih =>
      intro i x σ hi h
      rcases step i x σ (by omega) h with ⟨x', σ', h1, h2⟩ | ⟨y, σ', h1, h2⟩
      · obtain ⟨y, σ2, h3, h4⟩ := ih (i + 1) x' σ' (by omega) h2
        exact ⟨y, σ2, loopW_next h1 h3, h4⟩
      · exact ⟨y, σ', loopW_stop h1, h2⟩
  exact this n 0 x σ (by omega) h
theorem loopP_inv {X Y : Type} {f : X → Option (X ⊕ Y)} (n : Nat) (Inv : Nat → X → Prop) (Q : Y → Prop)
    (step : ∀ i x, i < n → Inv i x → (∃ x', f x = some (.inl x') ∧ Inv (i + 1) x') ∨ ∃ y, f x = some (.inr y) ∧ Q y)
    (stop : ∀ x, Inv n x → ∃ y, f x = some (.inr y) ∧ Q y) {x : X} (h : Inv 0 x) : ∃ y, loopP f x = some y ∧ Q y := by
  have : ∀ k i x, i + k = n → Inv i x → ∃ y, loopP f x = some y ∧ Q y := by
    intro k
    induction k with
    | zero =>
      intro i x hi h
      obtain rfl : i = n := by omega
      obtain ⟨y, h1, h2⟩ := stop x h
      exact ⟨y, loopP_stop h1, h2⟩
    | succ k ih =>
      intro i x hi h
      rcases step i x (by omega) h with ⟨x', h1, h2⟩ | ⟨y, h1, h2⟩
      · obtain ⟨y, h3, h4⟩ := ih (i + 1) x' (by omega) h2
        exact ⟨y, loopP_next h1 h3, h4⟩
      · exact ⟨y, loopP_stop h1, h2⟩
  exact this n 0 x (by omega) h
end Go.Proofs.YtgneblbblihaoaaDoor.A

/- Arguments, as0 views. -/
namespace Go.Proofs.YtgneblbblihaoaaDoor.A
open Go Go.RowKit

variable {P : Program} {α β : Type}
theorem slV_of {size : Nat} {rel : (Nat → Option AObj) → α → List AVal → Prop} (v : Vw β) (φ : α → β) (hsz : v.sz = size) {σ : Heap} (hn : ∀ l o, σ.get l = some o → l < σ.next)
    (hr : ∀ a us, rel σ.get a us → v.rel σ (φ a) us) {xs : List α} {us : List AVal} (h : sliceRel size rel σ.get xs us) : ∃ x, us = [x] ∧ SlV v σ (xs.map φ) x := by
  subst hsz
  rcases h with ⟨rfl, rfl⟩ | ⟨l, md, ass, rfl, h2, h3, h4, h5, _⟩
  · exact ⟨_, rfl, SlV.nil _ _⟩
  · refine ⟨_, rfl, .inr ⟨l, 0, none, md, ass.flatten, by simp, hn _ _ h2, h2, by rw [flatten_len _ _ h4, List.length_map, h3, Nat.zero_add]; exact Nat.le_refl _, fun i b hb => ?_⟩⟩
    simp only [List.getElem?_map, Option.map_eq_some_iff] at hb
    obtain ⟨a, ha, rfl⟩ := hb
    have hi := (List.getElem?_eq_some_iff.1 ha).1
    obtain ⟨u, hu⟩ : ∃ u, ass[i]? = some u := ⟨_, List.getElem?_eq_getElem (by omega)⟩
    have hul := h4 u (List.mem_of_getElem? hu)
    have : (ass.flatten.drop ((0 + i) * v.sz)).take v.sz = u := by
      apply List.ext_getElem? fun q => ?_
      rw [Nat.zero_add]
      by_cases hq : q < v.sz
      · rw [List.getElem?_take_of_lt hq, List.getElem?_drop, flatten_get v.sz ass i q u h4 hu hq]
      · rw [List.getElem?_eq_none (by simp; omega), List.getElem?_eq_none (by omega)]
    rw [this]
    exact hr a u (h5 i a u ha hu)
/-- What holds of the elements' cells holds of each. -/
theorem sliceRel_mem {size : Nat} {rel : (Nat → Option AObj) → α → List AVal → Prop} {g : Nat → Option AObj} {xs : List α} {us : List AVal} (h : sliceRel size rel g xs us) : ∀ a ∈ xs, ∃ u, rel g a u := by
  rcases h with ⟨_, rfl⟩ | ⟨l, md, ass, _, _, h3, _, h5, _⟩
  · intro a ha; cases ha
  · intro a ha
    obtain ⟨i, hi, e⟩ := List.getElem_of_mem ha
    exact ⟨_, h5 i a _ (by rw [List.getElem?_eq_getElem hi, e]) (List.getElem?_eq_getElem (by omega))⟩
theorem sliceRel_len {size : Nat} {rel : (Nat → Option AObj) → α → List AVal → Prop} {g : Nat → Option AObj} {xs : List α} {us : List AVal} (h : sliceRel size rel g xs us) : xs.length ≤ 140737488351232 := by
  rcases h with ⟨_, rfl⟩ | ⟨l, md, ass, _, _, _, _, _, h6⟩
  · simp
  · exact h6
end Go.Proofs.YtgneblbblihaoaaDoor.A

/- The seat's own numbers: types, variables, functions. -/
namespace Go.Proofs.YtgneblbblihaoaaDoor.A
open Go
noncomputable abbrev prg : Program := Tryd.prog
abbrev tErr : TypeId := 224
abbrev tAt : TypeId := 135
abbrev gBlocks : Nat := 0
abbrev gProof : Nat := 1
abbrev gRange : Nat := 2
abbrev gLimit : Nat := 3
abbrev gText : Nat := 4
abbrev gBudget : Nat := 5
abbrev gCert : Nat := 6
def okErr (P : Program) (t : TypeId) : Bool := match tiOf P t with
  | some ti => (match ti.tk with
    | .ptr e => (match tiOf P e with
      | some ei => !(Nat.beq ei.size 0) && ti.cmp
      | none => false)
    | _ => false)
  | none => false
theorem ti_err : ∃ ti e ei, tiOf prg tErr = some ti ∧ ti.tk = .ptr e ∧ tiOf prg e = some ei ∧ Nat.beq ei.size 0 = false ∧ ti.cmp = true := by
  have h : okErr prg tErr = true := by kernel_rfl
  unfold okErr at h
  split at h
  · rename_i ti h1
    split at h
    · rename_i e h2
      split at h
      · rename_i ei h3
        simp only [Bool.and_eq_true, Bool.not_eq_true'] at h
        exact ⟨ti, e, ei, h1, h2, h3, h.1, h.2⟩
      · cases h
    · cases h
  · cases h
end Go.Proofs.YtgneblbblihaoaaDoor.A

/- Appending one element. -/
namespace Go.Proofs.YtgneblbblihaoaaDoor.A
open Go
variable {α β : Type}
theorem Acc.loc {v : Vw α} {n0 : Nat} {σ : Heap} {xs : List α} {x : AVal} (h : Acc v n0 σ xs x) : ∀ l off len c, x = .sl l off len c → n0 ≤ l ∧ l < σ.next := fun l off len c e => by
  rcases h with ⟨rfl, _⟩ | ⟨l', cs, rfl, h1, h2, _⟩
  · cases e
  · cases e; exact ⟨h1, h2⟩
theorem one_src {v : Vw α} {σ : Heap} {x : AVal} {cs : List AVal} {a : α} (hx : ∀ l off len c, x = .sl l off len c → l < σ.next) (hr : v.rel (out σ x) a cs) :
    SlV v (out (σ.new (.cells .rw v.sz cs)) x) [a] (.sl σ.next 0 1 none) := by
  have L := ((Hle.refl σ).new (.cells .rw v.sz cs)).outs x
  refine .inr ⟨σ.next, 0, none, .rw, cs, rfl, by rw [out_next]; exact Nat.lt_succ_self _, ?_, by simp [v.len hr], fun j b hb => ?_⟩
  · cases hy : x with
    | sl l off len c =>
      have := hx _ _ _ _ hy
      show ((σ.new _).kill l).get _ = _
      rw [hkill_get, if_neg (by omega), hnew_get, if_pos rfl]
    | _ => simp only [out, hnew_get, if_true]
  · cases j with
    | zero =>
      simp at hb; subst hb
      have : (cs.drop ((0 + 0) * v.sz)).take v.sz = cs := by rw [Nat.add_zero, Nat.zero_mul, List.drop_zero]; exact List.take_of_length_le (by rw [v.len hr]; exact Nat.le_refl _)
      rw [this]; exact v.mono L hr
    | succ j => simp at hb
theorem Acc.push {v : Vw α} {σ0 σ : Heap} {xs : List α} {x : AVal} {cs : List AVal} {a : α} {bytes : Nat} (h : Acc v σ0.next σ xs x) (L : Hle σ0 σ) (hr : v.rel (out σ x) a cs) (hb : (xs.length + 1) * bytes ≤ 70368744177664) (hb' : xs.length + 1 ≤ 70368744177664) :
    ∃ x' σ', (∀ {Rt : Type} (K : AVal → Heap → Option Rt), appS (σ.new (.cells .rw v.sz cs)) v.sz bytes x (.sl σ.next 0 1 none) K = K x' σ') ∧ Hle σ0 σ' ∧ Acc v σ0.next σ' (xs ++ [a]) x' ∧ Hle (out σ x) (out σ' x') := by
  have L1 := (Hle.refl σ).new (.cells .rw v.sz cs)
  obtain ⟨x', σ', e1, e2, e3, e4⟩ := (h.mono L1).app (bytes := bytes) (L.trans L1) (one_src (fun l off len c e => (h.loc l off len c e).2) hr) (by rw [List.length_singleton]; exact hb) (by rw [List.length_singleton]; exact hb')
  exact ⟨x', σ', e1, e2, e3, (L1.outs x).trans e4⟩
/-- An empty slice with room. -/
theorem mk0 {v : Vw α} {σ : Heap} {n bytes : Nat} {z : List AVal} (hb : n * bytes ≤ 70368744177664) (hb' : n ≤ 70368744177664) : ∃ x τ, (∀ {Rt : Type} (K : AVal → Heap → Option Rt), mkS σ v.sz bytes z 0 (n : Int) K = K x τ) ∧ Hle σ τ ∧ Acc v σ.next τ [] x := by
  refine ⟨.sl σ.next 0 0 none, σ.new (.cells .rw v.sz (rep n z)), fun K => ?_, (Hle.refl σ).new _, .inr ⟨σ.next, rep n z, rfl, Nat.le_refl _, Nat.lt_succ_self _, by rw [hnew_get, if_pos rfl], by simp, fun i a hi => by simp at hi⟩⟩
  have h1 : (n : Int) * (bytes : Int) ≤ 70368744177664 := by
    have : ((n * bytes : Nat) : Int) ≤ 70368744177664 := by omega
    rwa [Int.natCast_mul] at this
  simp only [mkS, newK]
  rw [if_pos ⟨by omega, by omega, h1, by omega⟩, Int.toNat_natCast, Int.toNat_zero]
end Go.Proofs.YtgneblbblihaoaaDoor.A

/- A calculus for the shallow functions: what a run comes to. -/
namespace Go.Proofs.YtgneblbblihaoaaDoor.A
open Go

/-! Short names. -/
set_option linter.all false
def q1 := @decide_eq_true_eq
def q2 := @decide_eq_false_iff_not
def q3 := @Bool.not_eq_true'
def q4 := @Bool.not_eq_false'
def q5 := @beq_iff_eq
def q6 := @beq_eq_false_iff_ne
def q7 := @bne_iff_ne
def q8 := @bne_eq_false_iff_eq
def q9 := @Bool.not_eq_true
def q10 := @Bool.not_eq_false
def q11 := @Bool.not_true
def q12 := @Bool.not_false
def q13 := @Bool.true_eq_false
def q14 := @Bool.false_eq_true
def q15 := @Int.not_lt
def q16 := @Int.not_le
def q17 := @gt_iff_lt
def q18 := @ge_iff_le
def q19 := @ne_eq
def q20 := @Int.toNat_natCast
def q21 := @not_true_eq_false
def q22 := @not_false_eq_true
def q23 := @Bool.and_eq_true
def q24 := @Bool.or_eq_true
def q25 := @Bool.and_eq_false_iff
def q26 := @Bool.or_eq_false_iff
def q27 := @Option.isNone_none
def q28 := @Option.isNone_some
def q29 := @Option.isSome_none
def q30 := @Option.isSome_some

/-- A run comes to a result as0 Q says. -/
def W {R : Type} (o : Option R) (Q : R → Prop) : Prop := ∃ r, o = some r ∧ Q r

section
variable {R S : Type}
theorem W.ret {r : R} {Q : R → Prop} (h : Q r) : W (some r) Q := ⟨r, rfl, h⟩
theorem W.bind {o : Option S} {K : S → Option R} {Q : R → Prop} (h : W o fun r => W (K r) Q) : W (o.bind K) Q := by
  obtain ⟨r, rfl, h⟩ := h; exact h
theorem W.mono {o : Option R} {P Q : R → Prop} (h : W o P) (k : ∀ r, P r → Q r) : W o Q := by
  obtain ⟨r, e, h⟩ := h; exact ⟨r, e, k r h⟩
theorem W.call {o : Option S} {K : S → Option R} {P : S → Prop} {Q : R → Prop} (h : W o P) (k : ∀ r, P r → W (K r) Q) : W (o.bind K) Q := by
  obtain ⟨r, rfl, h⟩ := h; exact k r h
theorem W.eqn {o : Option S} {r : S} {K : S → Option R} {Q : R → Prop} (h : o = some r) (k : W (K r) Q) : W (o.bind K) Q := by
  rw [h]; exact k
theorem W.to {o o' : Option R} {Q : R → Prop} (h : o = o') (k : W o' Q) : W o Q := h ▸ k
theorem W.cnd {b : Bool} {x y : Option R} {Q : R → Prop} (h : b = true → W x Q) (k : b = false → W y Q) : W (cond b x y) Q := by
  cases b
  · exact k rfl
  · exact h rfl
theorem W.condT {b : Bool} {x y : Option R} {Q : R → Prop} (h : b = true) (k : W x Q) : W (cond b x y) Q := by subst h; exact k
theorem W.condF {b : Bool} {x y : Option R} {Q : R → Prop} (h : b = false) (k : W y Q) : W (cond b x y) Q := by subst h; exact k
theorem W.chk {p : Prop} {o : Option R} {Q : R → Prop} (h : p) (k : W o Q) : W (chk p o) Q := by
  simp only [A.chk, if_pos h]; exact k
theorem W.out {o : Option R} {Q : R → Prop} (h : W o Q) : ∃ r, o = some r ∧ Q r := h
end

/-! ### Loops -/
/-- What a round may come to. -/
@[reducible] def LQ {X Y : Type} (A : X → Heap → Prop) (B : Y × Heap → Prop) : (X ⊕ Y) × Heap → Prop := fun r => match r.1 with
  | .inl x => A x r.2
  | .inr y => B (y, r.2)
@[reducible] def LP {X Y : Type} (A : X → Prop) (B : Y → Prop) : X ⊕ Y → Prop
  | .inl x => A x
  | .inr y => B y
section
variable {X Y : Type}
theorem W.next {A : X → Heap → Prop} {B : Y × Heap → Prop} {x : X} {σ : Heap} (h : A x σ) : W (some (.inl x, σ)) (LQ A B) := ⟨_, rfl, h⟩
theorem W.stop {A : X → Heap → Prop} {B : Y × Heap → Prop} {y : Y} {σ : Heap} (h : B (y, σ)) : W (some (.inr y, σ)) (LQ A B) := ⟨_, rfl, h⟩
theorem W.nextP {A : X → Prop} {B : Y → Prop} {x : X} (h : A x) : W (some (.inl x)) (LP A B) := ⟨_, rfl, h⟩
theorem W.stopP {A : X → Prop} {B : Y → Prop} {y : Y} (h : B y) : W (some (.inr y)) (LP A B) := ⟨_, rfl, h⟩
/-- A loop that counts to n. -/
theorem W.loop {f : X → Heap → Option ((X ⊕ Y) × Heap)} {Q : Y × Heap → Prop} (n : Nat) (Inv : Nat → X → Heap → Prop) {x : X} {σ : Heap} (h0 : Inv 0 x σ)
    (step : ∀ i x σ, i ≤ n → Inv i x σ → W (f x σ) (LQ (fun x' σ' => i < n ∧ Inv (i + 1) x' σ') Q)) : W (loopW f x σ) Q := by
  have : ∀ k i x σ, i + k = n → Inv i x σ → W (loopW f x σ) Q := by
    intro k
    induction k with
    | zero =>
      intro i x σ hi h
      obtain ⟨⟨r, τ⟩, e, hr⟩ := step i x σ (by omega) h
      cases r with
      | inl x' => exact absurd hr.1 (by omega)
      | inr y => exact ⟨_, loopW_stop e, hr⟩
    | succ k ih =>
      intro i x σ hi h
      obtain ⟨⟨r, τ⟩, e, hr⟩ := step i x σ (by omega) h
      cases r with
      | inl x' =>
        obtain ⟨z, h3, h4⟩ := ih (i + 1) x' τ (by omega) hr.2
        exact ⟨z, loopW_next e h3, h4⟩
      | inr y => exact ⟨_, loopW_stop e, hr⟩
  exact this n 0 x σ (by omega) h0
theorem W.loopP {f : X → Option (X ⊕ Y)} {Q : Y → Prop} (n : Nat) (Inv : Nat → X → Prop) {x : X} (h0 : Inv 0 x)
    (step : ∀ i x, i ≤ n → Inv i x → W (f x) (LP (fun x' => i < n ∧ Inv (i + 1) x') Q)) : W (A.loopP f x) Q := by
  have : ∀ k i x, i + k = n → Inv i x → W (A.loopP f x) Q := by
    intro k
    induction k with
    | zero =>
      intro i x hi h
      obtain ⟨r, e, hr⟩ := step i x (by omega) h
      cases r with
      | inl x' => exact absurd hr.1 (by omega)
      | inr y => exact ⟨_, loopP_stop e, hr⟩
    | succ k ih =>
      intro i x hi h
      obtain ⟨r, e, hr⟩ := step i x (by omega) h
      cases r with
      | inl x' =>
        obtain ⟨z, h3, h4⟩ := ih (i + 1) x' (by omega) hr.2
        exact ⟨z, loopP_next e h3, h4⟩
      | inr y => exact ⟨_, loopP_stop e, hr⟩
  exact this n 0 x (by omega) h0
/-- A loop that sinks. -/
theorem W.loopM {f : X → Heap → Option ((X ⊕ Y) × Heap)} {Q : Y × Heap → Prop} (μ : X → Heap → Nat) (Inv : X → Heap → Prop) {x : X} {σ : Heap} (h0 : Inv x σ)
    (step : ∀ x σ, Inv x σ → W (f x σ) (LQ (fun x' σ' => μ x' σ' < μ x σ ∧ Inv x' σ') Q)) : W (loopW f x σ) Q := by
  have : ∀ k x σ, μ x σ < k → Inv x σ → W (loopW f x σ) Q := by
    intro k
    induction k with
    | zero => intro x σ hi; omega
    | succ k ih =>
      intro x σ hi h
      obtain ⟨⟨r, τ⟩, e, hr⟩ := step x σ h
      cases r with
      | inl x' =>
        obtain ⟨z, h3, h4⟩ := ih x' τ (by have h5 : μ x' τ < μ x σ := hr.1; omega) hr.2
        exact ⟨z, loopW_next e h3, h4⟩
      | inr y => exact ⟨_, loopW_stop e, hr⟩
  exact this _ x σ (Nat.lt_succ_self _) h0
theorem W.loopPM {f : X → Option (X ⊕ Y)} {Q : Y → Prop} (μ : X → Nat) (Inv : X → Prop) {x : X} (h0 : Inv x)
    (step : ∀ x, Inv x → W (f x) (LP (fun x' => μ x' < μ x ∧ Inv x') Q)) : W (A.loopP f x) Q := by
  have : ∀ k x, μ x < k → Inv x → W (A.loopP f x) Q := by
    intro k
    induction k with
    | zero => intro x hi; omega
    | succ k ih =>
      intro x hi h
      obtain ⟨r, e, hr⟩ := step x h
      cases r with
      | inl x' =>
        obtain ⟨z, h3, h4⟩ := ih x' (by have h5 : μ x' < μ x := hr.1; omega) hr.2
        exact ⟨z, loopP_next e h3, h4⟩
      | inr y => exact ⟨_, loopP_stop e, hr⟩
  exact this _ x (Nat.lt_succ_self _) h0
end

/-! ### Reads -/
section
variable {R α : Type} {v : Vw α} {σ : Heap} {xs : List α} {x p : AVal} {as0 : List AVal} {Q : R → Prop}
theorem W.len (h : SlV v σ xs x) {K : Int → Option R} (k : W (K (xs.length : Int)) Q) : W (lenV x K) Q := W.to (h.len K) k
theorem W.lenN {K : Int → Option R} (k : W (K 0) Q) : W (lenV .nils K) Q := k
theorem W.scalS (h : SlV v σ xs x) {X : Option R} (k : W X Q) : W (scal x X) Q := W.to (h.scal X) k
theorem fld_fld (p : AVal) (j k : Nat) (K : AVal → Option R) : fld p j (fun q => fld q k K) = fld p (j + k) K := by
  cases p <;> simp [fld, Nat.add_assoc]
theorem W.fldfld {j k : Nat} {K : AVal → Option R} (h : W (fld p (j + k) K) Q) : W (fld p j fun q => fld q k K) Q := W.to (fld_fld p j k K) h
/-- A field, read. -/
theorem W.fldld (h : At σ p as0) {k : Nat} {a : AVal} (hk : as0[k]? = some a) {kd : Kd} {K : kd.ty → Option R} (c : W (asK kd a K) Q) : W (fld p k fun q => ld σ q kd K) Q := by
  obtain ⟨l, o, md, sz, cs, rfl, _⟩ := id h
  have := h.cell hk
  refine W.to ?_ c
  simp only [fld, ld, this]
theorem W.ldp {l o : Nat} (h : At σ (.ptr l o) as0) {k : Nat} {a : AVal} (hk : as0[k]? = some a) {kd : Kd} {K : kd.ty → Option R} (c : W (asK kd a K) Q) : W (ld σ (.ptr l (o + k)) kd K) Q := by
  have := h.cell hk
  refine W.to ?_ c
  simp only [ld, this]
theorem W.ld0 (h : At σ p (as0)) {a : AVal} (hk : as0[0]? = some a) {kd : Kd} {K : kd.ty → Option R} (c : W (asK kd a K) Q) : W (ld σ p kd K) Q := by
  obtain ⟨l, o, md, sz, cs, rfl, _⟩ := id h
  have := h.cell hk
  rw [Nat.add_zero] at this
  refine W.to ?_ c
  simp only [ld, this]
theorem W.ldl {l : Nat} (h : At σ (.ptr l 0) as0) {k : Nat} {a : AVal} (hk : as0[k]? = some a) {kd : Kd} {K : kd.ty → Option R} (c : W (asK kd a K) Q) : W (ld σ (.ptr l k) kd K) Q :=
  W.to (h.ld0 hk K) c
theorem W.ldGG (h : At σ p as0) {n : Nat} (hn : as0.length = n) {K : AVal → Option R} (c : W (K (.agg as0)) Q) : W (ldG σ p n K) Q := W.to (h.ldG hn.symm K) c
theorem W.ldGo {l : Nat} (h : At σ (.ptr l 0) as0) {k n : Nat} (hk : k + n ≤ as0.length) {K : AVal → Option R} (c : W (K (.agg ((as0.drop k).take n))) Q) : W (ldG σ (.ptr l k) n K) Q := by
  have h2 := (h.drop k (by omega)).take n (by simp; omega)
  rw [Nat.zero_add] at h2
  exact W.ldGG h2 (by simp; omega) c
theorem W.fldldG (h : At σ p as0) {k n : Nat} (hk : k + n ≤ as0.length) {K : AVal → Option R} (c : W (K (.agg ((as0.drop k).take n))) Q) : W (fld p k fun q => ldG σ q n K) Q := by
  obtain ⟨l, o, md, sz, cs, rfl, _⟩ := id h
  have h2 := (h.drop k (by omega)).take n (by simp; omega)
  show W (ldG σ (.ptr l (o + k)) n K) Q
  exact W.ldGG h2 (by simp; omega) c
theorem W.aggK {n : Nat} {cs : List AVal} (h : cs.length = n) {K : List AVal → Option R} (c : W (K cs) Q) : W (A.aggK (.agg cs) n K) Q := by
  simp only [A.aggK, if_pos h]; exact c
/-- An element of a slice, in general. -/
theorem W.ix (h : SlV v σ xs x) {i : Int} (h0 : 0 ≤ i) (h1 : i < xs.length) {K : AVal → Option R} (c : ∀ p as0 a, xs[i.toNat]? = some a → At σ p as0 → v.rel σ a as0 → W (K p) Q) {sz : Nat} (hs : sz = v.sz := by rfl) : W (ixA σ x sz i K) Q := by
  subst hs
  obtain ⟨a, ha⟩ : ∃ a, xs[i.toNat]? = some a := ⟨_, List.getElem?_eq_getElem (by omega)⟩
  obtain ⟨p, as0, h2, h3, h4⟩ := h.ix ha
  refine W.to ?_ (c p as0 a ha h2 h3)
  have := h4 (Hle.refl σ) K
  rwa [Int.toNat_of_nonneg h0] at this
/-- An element that is known. -/
theorem W.ixk (h : SlV v σ xs x) {i : Int} {a : α} (ha : xs[i.toNat]? = some a) (h0 : 0 ≤ i) {K : AVal → Option R} (c : ∀ p as0, At σ p as0 → v.rel σ a as0 → W (K p) Q) {sz : Nat} (hs : sz = v.sz := by rfl) : W (ixA σ x sz i K) Q := by
  subst hs
  obtain ⟨p, as0, h2, h3, h4⟩ := h.ix ha
  refine W.to ?_ (c p as0 h2 h3)
  have := h4 (Hle.refl σ) K
  rwa [Int.toNat_of_nonneg h0] at this
end
section
variable {R : Type} {σ : Heap} {x : AVal} {Q : R → Prop}
theorem W.ixI {xs : List Int} (h : SlV .int σ xs x) {i : Int} {a : Int} (ha : xs[i.toNat]? = some a) (h0 : 0 ≤ i) {K : Int → Option R} (c : W (K a) Q) : W (ixA σ x 1 i fun p => ld σ p (.I .i64) K) Q :=
  W.ixk h ha h0 (fun p as0 hp hr => by
    have hr : as0 = [.int .i64 a] := hr
    subst hr
    exact W.ld0 hp rfl c)
theorem W.ixIn {xs : List Int} (h : SlV .int σ xs x) {i : Int} (h0 : 0 ≤ i) (h1 : i < xs.length) {K : Int → Option R} (c : ∀ a, xs[i.toNat]? = some a → W (K a) Q) : W (ixA σ x 1 i fun p => ld σ p (.I .i64) K) Q := by
  obtain ⟨a, ha⟩ : ∃ a, xs[i.toNat]? = some a := ⟨_, List.getElem?_eq_getElem (by omega)⟩
  exact W.ixI h ha h0 (c a ha)
theorem W.ixB {xs : List Bool} (h : SlV .bool σ xs x) {i : Int} {a : Bool} (ha : xs[i.toNat]? = some a) (h0 : 0 ≤ i) {K : Bool → Option R} (c : W (K a) Q) : W (ixA σ x 1 i fun p => ld σ p .B K) Q :=
  W.ixk h ha h0 (fun p as0 hp hr => by
    have hr : as0 = [.bool a] := hr
    subst hr
    exact W.ld0 hp rfl c)
theorem W.ixBn {xs : List Bool} (h : SlV .bool σ xs x) {i : Int} (h0 : 0 ≤ i) (h1 : i < xs.length) {K : Bool → Option R} (c : ∀ a, xs[i.toNat]? = some a → W (K a) Q) : W (ixA σ x 1 i fun p => ld σ p .B K) Q := by
  obtain ⟨a, ha⟩ : ∃ a, xs[i.toNat]? = some a := ⟨_, List.getElem?_eq_getElem (by omega)⟩
  exact W.ixB h ha h0 (c a ha)
/-- A slice in a slice. -/
theorem W.ixS {α : Type} {v : Vw α} {xs : List (List α)} (h : SlV v.sl σ xs x) {i : Int} {a : List α} (ha : xs[i.toNat]? = some a) (h0 : 0 ≤ i) {K : AVal → Option R} (c : ∀ y, SlV v σ a y → W (K y) Q) : W (ixA σ x 1 i fun p => ld σ p .V K) Q :=
  W.ixk h ha h0 (fun p as0 hp hr => by
    obtain ⟨y, rfl, hy⟩ := hr
    exact W.ld0 hp rfl (c y hy))
theorem W.ixSn {α : Type} {v : Vw α} {xs : List (List α)} (h : SlV v.sl σ xs x) {i : Int} (h0 : 0 ≤ i) (h1 : i < xs.length) {K : AVal → Option R} (c : ∀ a y, xs[i.toNat]? = some a → SlV v σ a y → W (K y) Q) : W (ixA σ x 1 i fun p => ld σ p .V K) Q := by
  obtain ⟨a, ha⟩ : ∃ a, xs[i.toNat]? = some a := ⟨_, List.getElem?_eq_getElem (by omega)⟩
  exact W.ixS h ha h0 fun y hy => c a y ha hy
end

/-! ### Objects of one's own -/
theorem Hle.mono {σ τ υ : Heap} (h : Hle σ τ) (k : Hle τ υ) : Hle σ υ := h.trans k
/-- An object of one's own, and its cells. -/
structure Loc (σ : Heap) (l : Nat) (cs : List AVal) : Prop where
  lt : l < σ.next
  get : ∃ sz, σ.get l = some (.cells .rw sz cs)
section
variable {σ τ : Heap} {l k : Nat} {cs : List AVal}
theorem Loc.mono (h : Loc σ l cs) (L : Hle σ τ) : Loc τ l cs := ⟨Nat.lt_of_lt_of_le h.lt L.next, h.get.elim fun sz e => ⟨sz, L.get _ _ h.lt e⟩⟩
theorem Loc.kill (h : Loc σ l cs) (hk : l ≠ k) : Loc (σ.kill k) l cs := ⟨h.lt, h.get.elim fun sz e => ⟨sz, by rw [hkill_get, if_neg hk]; exact e⟩⟩
theorem Loc.at (h : Loc σ l cs) : At σ (.ptr l 0) cs := h.get.elim fun _ e => At.of_get h.lt e
theorem Hle.ofk (L : Hle σ τ) (hk : σ.next ≤ k) {υ : Heap} (M : Hle (τ.kill k) υ) : Hle σ υ := (L.kill hk).trans M
theorem At.kill {p : AVal} {as0 : List AVal} (h : At σ p as0) (hk : ∀ o, p ≠ .ptr k o) : At (σ.kill k) p as0 := by
  obtain ⟨l, o, md, sz, cs, rfl, h2, h3, h4⟩ := h
  exact ⟨l, o, md, sz, cs, rfl, h2, by rw [hkill_get, if_neg (fun e => hk o (by rw [e]))]; exact h3, h4⟩
end
section
variable {R : Type} {σ τ : Heap} {Q : R → Prop}
/-- A new object. -/
theorem W.new {sz : Nat} {cs : List AVal} {K : Nat → Heap → Option R} (c : ∀ l τ, l = σ.next → Hle σ τ → Loc τ l cs → τ.next = σ.next + 1 → W (K l τ) Q) : W (newK σ sz cs K) Q :=
  c _ _ rfl ((Hle.refl σ).new _) ⟨Nat.lt_succ_self _, sz, by rw [hnew_get, if_pos rfl]⟩ rfl
theorem W.newg {sz : Nat} {cs : List AVal} {K : Nat → Heap → Option R} (c : ∀ l τ, l = σ.next → Hle σ τ → At τ (.ptr l 0) cs → τ.get l = some (.cells .rw sz cs) → τ.next = σ.next + 1 → W (K l τ) Q) : W (newK σ sz cs K) Q :=
  c _ _ rfl ((Hle.refl σ).new _) (At.new _ _ _) (by rw [hnew_get, if_pos rfl]) rfl
theorem W.st {l o : Nat} {cs vs : List AVal} (h : Loc σ l cs) (hv : o + vs.length ≤ cs.length) {K : Heap → Option R} (c : ∀ τ, Hle (σ.kill l) τ → τ.next = σ.next → Loc τ l (cs.take o ++ vs ++ cs.drop (o + vs.length)) → W (K τ) Q) : W (stC σ (.ptr l o) vs K) Q := by
  obtain ⟨sz, e⟩ := h.get
  refine W.to (o' := K (σ.set l (.cells .rw sz (cs.take o ++ vs ++ cs.drop (o + vs.length))))) ?_ (c _ (Hle.kill_set ..) rfl ⟨h.lt, sz, by rw [hset_get, if_pos rfl]⟩)
  simp only [stC, e, if_pos hv]
/-- All cells of an object. -/
theorem W.st0 {l : Nat} {cs vs : List AVal} (h : Loc σ l cs) (hv : vs.length = cs.length) {K : Heap → Option R} (c : ∀ τ, Hle (σ.kill l) τ → τ.next = σ.next → Loc τ l vs → W (K τ) Q) : W (stC σ (.ptr l 0) vs K) Q := by
  refine W.st h (by omega) fun τ a b d => c τ a b ?_
  have : cs.take 0 ++ vs ++ cs.drop (0 + vs.length) = vs := by simp [hv]
  rwa [this] at d
theorem W.stf {l o : Nat} {cs vs : List AVal} (h : Loc σ l cs) {k : Nat} (hv : o + k + vs.length ≤ cs.length) {K : Heap → Option R} (c : ∀ τ, Hle (σ.kill l) τ → τ.next = σ.next → Loc τ l (cs.take (o + k) ++ vs ++ cs.drop (o + k + vs.length)) → W (K τ) Q) : W (fld (.ptr l o) k fun p => stC σ p vs K) Q := W.st h hv c
theorem W.ldL {l o : Nat} {cs : List AVal} (h : Loc σ l cs) {a : AVal} (hk : cs[o]? = some a) {kd : Kd} {K : kd.ty → Option R} (c : W (asK kd a K) Q) : W (ld σ (.ptr l o) kd K) Q := W.ldl h.at hk c
theorem W.ldGL {l o n : Nat} {cs : List AVal} (h : Loc σ l cs) (hk : o + n ≤ cs.length) {K : AVal → Option R} (c : W (K (.agg ((cs.drop o).take n))) Q) : W (ldG σ (.ptr l o) n K) Q := W.ldGo h.at hk c
theorem W.fldp {l o k : Nat} {K : AVal → Option R} (c : W (K (.ptr l (o + k))) Q) : W (fld (.ptr l o) k K) Q := c
theorem W.asI {k : IntKind} {n : Int} {K : Int → Option R} (c : W (K n) Q) : W (asK (.I k) (.int k n) K) Q := by
  refine W.to ?_ c; simp [asK]
theorem W.asB {n : Bool} {K : Bool → Option R} (c : W (K n) Q) : W (asK .B (.bool n) K) Q := c
theorem W.asV {n : AVal} {K : AVal → Option R} (c : W (K n) Q) : W (asK .V n K) Q := c
theorem W.asS {n : ByteArray} {K : ByteArray → Option R} (c : W (K n) Q) : W (asK .S (.str n) K) Q := c
theorem W.ixIc {x : AVal} {xs : List Int} {i : Nat} {a : Int} (h : SlV .int σ xs x) (ha : xs[i]? = some a) {K : Int → Option R} (c : W (K a) Q) : W (ixA σ x 1 (i : Int) fun p => ld σ p (.I .i64) K) Q := W.ixI h (by simpa using ha) (by omega) c
theorem W.ixBc {x : AVal} {xs : List Bool} {i : Nat} {a : Bool} (h : SlV .bool σ xs x) (ha : xs[i]? = some a) {K : Bool → Option R} (c : W (K a) Q) : W (ixA σ x 1 (i : Int) fun p => ld σ p .B K) Q := W.ixB h (by simpa using ha) (by omega) c
theorem W.ixInc {x : AVal} {xs : List Int} {i : Nat} (h : SlV .int σ xs x) (hi : i < xs.length) {K : Int → Option R} (c : ∀ a, xs[i]? = some a → W (K a) Q) : W (ixA σ x 1 (i : Int) fun p => ld σ p (.I .i64) K) Q := W.ixIn h (by omega) (by omega) (by simpa using c)
theorem W.ixBnc {x : AVal} {xs : List Bool} {i : Nat} (h : SlV .bool σ xs x) (hi : i < xs.length) {K : Bool → Option R} (c : ∀ a, xs[i]? = some a → W (K a) Q) : W (ixA σ x 1 (i : Int) fun p => ld σ p .B K) Q := W.ixBn h (by omega) (by omega) (by simpa using c)
theorem W.ixSc {α : Type} {v : Vw α} {x : AVal} {xs : List (List α)} {i : Nat} {a : List α} (h : SlV v.sl σ xs x) (ha : xs[i]? = some a) {K : AVal → Option R} (c : ∀ y, SlV v σ a y → W (K y) Q) : W (ixA σ x 1 (i : Int) fun p => ld σ p .V K) Q := W.ixS h (by simpa using ha) (by omega) c
theorem W.ixSnc {α : Type} {v : Vw α} {x : AVal} {xs : List (List α)} {i : Nat} (h : SlV v.sl σ xs x) (hi : i < xs.length) {K : AVal → Option R} (c : ∀ a y, xs[i]? = some a → SlV v σ a y → W (K y) Q) : W (ixA σ x 1 (i : Int) fun p => ld σ p .V K) Q := W.ixSn h (by omega) (by omega) (by simpa using c)
theorem W.ixc {α : Type} {v : Vw α} {x : AVal} {xs : List α} {i : Nat} (h : SlV v σ xs x) (hi : i < xs.length) {K : AVal → Option R} (c : ∀ p us a, xs[i]? = some a → At σ p us → v.rel σ a us → W (K p) Q) {sz : Nat} (hs : sz = v.sz := by rfl) : W (ixA σ x sz (i : Int) K) Q := W.ix h (by omega) (by omega) (by simpa using c) hs
theorem W.ixkc {α : Type} {v : Vw α} {x : AVal} {xs : List α} {i : Nat} {a : α} (h : SlV v σ xs x) (ha : xs[i]? = some a) {K : AVal → Option R} (c : ∀ p as0, At σ p as0 → v.rel σ a as0 → W (K p) Q) {sz : Nat} (hs : sz = v.sz := by rfl) : W (ixA σ x sz (i : Int) K) Q := W.ixk h (by simpa using ha) (by omega) c hs
/-- Elements, as0 they were known before. -/
theorem W.ixL {α : Type} {v : Vw α} {τ : Heap} {x : AVal} {xs : List α} {i : Nat} (h : SlV v σ xs x) (L : Hle σ τ) (hi : i < xs.length) {K : AVal → Option R} (c : ∀ p us a, xs[i]? = some a → At σ p us → v.rel σ a us → W (K p) Q) {sz : Nat} (hs : sz = v.sz := by rfl) : W (ixA τ x sz (i : Int) K) Q := by
  subst hs
  obtain ⟨a, ha⟩ : ∃ a, xs[i]? = some a := ⟨_, List.getElem?_eq_getElem hi⟩
  obtain ⟨p, as0, h2, h3, h4⟩ := h.ix ha
  exact W.to (h4 L K) (c p as0 a ha h2 h3)
theorem W.ixkL {α : Type} {v : Vw α} {τ : Heap} {x : AVal} {xs : List α} {i : Nat} {a : α} (h : SlV v σ xs x) (L : Hle σ τ) (ha : xs[i]? = some a) {K : AVal → Option R} (c : ∀ p as0, At σ p as0 → v.rel σ a as0 → W (K p) Q) {sz : Nat} (hs : sz = v.sz := by rfl) : W (ixA τ x sz (i : Int) K) Q := by
  subst hs
  obtain ⟨p, as0, h2, h3, h4⟩ := h.ix ha
  exact W.to (h4 L K) (c p as0 h2 h3)
theorem W.ixLS {α : Type} {v : Vw α} {τ : Heap} {x : AVal} {xs : List (List α)} {i : Nat} (h : SlV v.sl σ xs x) (L : Hle σ τ) (hi : i < xs.length) {K : AVal → Option R} (c : ∀ a y, xs[i]? = some a → SlV v σ a y → W (K y) Q) : W (ixA τ x 1 (i : Int) fun p => ld τ p .V K) Q :=
  W.ixL h L hi fun p us a ha hp hr => by
    obtain ⟨y, rfl, hy⟩ := hr
    exact W.ld0 (hp.mono L) rfl (c a y ha hy)
theorem W.ixkLS {α : Type} {v : Vw α} {τ : Heap} {x : AVal} {xs : List (List α)} {i : Nat} {a : List α} (h : SlV v.sl σ xs x) (L : Hle σ τ) (ha : xs[i]? = some a) {K : AVal → Option R} (c : ∀ y, SlV v σ a y → W (K y) Q) : W (ixA τ x 1 (i : Int) fun p => ld τ p .V K) Q :=
  W.ixkL h L ha fun p us hp hr => by
    obtain ⟨y, rfl, hy⟩ := hr
    exact W.ld0 (hp.mono L) rfl (c y hy)
theorem W.putC {cs vs : List AVal} {off n : Nat} {K : List AVal → Option R} (h : Nat.ble (off + n) cs.length = true) (c : W (K (cs.take off ++ vs ++ cs.drop (off + n))) Q) : W (A.putC cs off n vs K) Q := by
  simp only [A.putC, if_pos (Nat.le_of_ble_eq_true h)]; exact c
theorem W.scI {k : IntKind} {n : Int} {X : Option R} (c : W X Q) : W (scal (.int k n) X) Q := c
theorem W.scB {n : Bool} {X : Option R} (c : W X Q) : W (scal (.bool n) X) Q := c
theorem W.scP {l o : Nat} {X : Option R} (c : W X Q) : W (scal (.ptr l o) X) Q := c
theorem W.scM {l : Nat} {X : Option R} (c : W X Q) : W (scal (.map l) X) Q := c
theorem W.scN {X : Option R} (c : W X Q) : W (scal .nils X) Q := c
theorem W.scNp {X : Option R} (c : W X Q) : W (scal .nilp X) Q := c
theorem W.scNi {X : Option R} (c : W X Q) : W (scal .nili X) Q := c
theorem W.scIf {t : TypeId} {v : AVal} {X : Option R} (c : W X Q) : W (scal (.ifc t v) X) Q := c
theorem W.scSl {l o n : Nat} {k : Option Nat} {X : Option R} (c : W X Q) : W (scal (.sl l o n k) X) Q := c
theorem W.nck {l o : Nat} {X : Option R} (c : W X Q) : W (nilck (.ptr l o) X) Q := c
theorem W.scalp {p : AVal} {X : Option R} (hp : scal (Rt := R) p X = X) (c : W X Q) : W (scal p X) Q := W.to hp c
theorem W.nnil {T : TypeId → Option TI} {K : Bool → Option R} (c : W (K true) Q) : W (eqI T σ true .nili .nili K) Q := c
theorem W.inil {T : TypeId → Option TI} {t : TypeId} {v : AVal} {K : Bool → Option R} (c : W (K false) Q) : W (eqI T σ true (.ifc t v) .nili K) Q := c
end

/-! ### Lists of one's own -/
section
variable {R α : Type} {v : Vw α} {σ0 σ : Heap} {xs ys : List α} {x y : AVal} {Q : R → Prop}
theorem W.push (h : Acc v σ0.next σ xs x) (L : Hle σ0 σ) {cs : List AVal} {a : α} (hr : v.rel (A.out σ x) a cs) {sz bytes : Nat} (hb : (xs.length + 1) * bytes ≤ 70368744177664) (hb' : xs.length + 1 ≤ 70368744177664) {K : AVal → Heap → Option R}
    (c : ∀ x' τ, Hle σ0 τ → Acc v σ0.next τ (xs ++ [a]) x' → Hle (A.out σ x) (A.out τ x') → W (K x' τ) Q) (hs : sz = v.sz := by rfl) : W (newK σ sz cs fun l τ => appS τ sz bytes x (.sl l 0 1 none) K) Q := by
  subst hs
  obtain ⟨x', τ, e, h1, h2, h3⟩ := h.push (bytes := bytes) L hr hb hb'
  exact W.to (e K) (c x' τ h1 h2 h3)
theorem W.pushI {xs : List Int} (h : Acc .int σ0.next σ xs x) (L : Hle σ0 σ) {a : Int} {bytes : Nat} (hb : (xs.length + 1) * bytes ≤ 70368744177664) (hb' : xs.length + 1 ≤ 70368744177664) {K : AVal → Heap → Option R}
    (c : ∀ x' τ, Hle σ0 τ → Acc .int σ0.next τ (xs ++ [a]) x' → Hle (A.out σ x) (A.out τ x') → W (K x' τ) Q) : W (newK σ 1 [.int .i64 a] fun l τ => appS τ 1 bytes x (.sl l 0 1 none) K) Q :=
  W.push h L (cs := [.int .i64 a]) (a := a) rfl hb hb' c
theorem W.app (h : Acc v σ0.next σ xs x) (L : Hle σ0 σ) (hy : SlV v (A.out σ x) ys y) {sz bytes : Nat} (hb : (xs.length + ys.length) * bytes ≤ 70368744177664) (hb' : xs.length + ys.length ≤ 70368744177664) {K : AVal → Heap → Option R}
    (c : ∀ x' τ, Hle σ0 τ → Acc v σ0.next τ (xs ++ ys) x' → Hle (A.out σ x) (A.out τ x') → W (K x' τ) Q) (hs : sz = v.sz := by rfl) : W (appS σ sz bytes x y K) Q := by
  subst hs
  obtain ⟨x', τ, e, h1, h2, h3⟩ := h.app (bytes := bytes) L hy hb hb'
  exact W.to (e K) (c x' τ h1 h2 h3)
theorem W.mk0 (v : Vw α) {n sz bytes : Nat} {z : List AVal} (hb : n * bytes ≤ 70368744177664) (hb' : n ≤ 70368744177664) {K : AVal → Heap → Option R}
    (c : ∀ x τ, Hle σ τ → Acc v σ.next τ [] x → W (K x τ) Q) (hs : sz = v.sz := by rfl) : W (mkS σ sz bytes z 0 (n : Int) K) Q := by
  subst hs
  obtain ⟨x, τ, e, h1, h2⟩ := A.mk0 (v := v) (σ := σ) (bytes := bytes) (z := z) hb hb'
  exact W.to (e K) (c x τ h1 h2)
end
end Go.Proofs.YtgneblbblihaoaaDoor.A

/- Errors, and the faults that they are. -/
namespace Go.Proofs.YtgneblbblihaoaaDoor.A
open Go

inductive Er where
  | text | limit | budget | range | blocks | proof | cert
  deriving DecidableEq
def Er.g : Er → Nat
  | .text => gText
  | .limit => gLimit
  | .budget => gBudget
  | .range => gRange
  | .blocks => gBlocks
  | .proof => gProof
  | .cert => gCert
def Er.s : Er → List UInt8
  | .text => [110, 111, 116, 32, 97, 115, 32, 105, 116, 32, 105, 115, 32, 119, 114, 105, 116, 116, 101, 110]
  | .limit => [109, 111, 114, 101, 32, 116, 104, 97, 110, 32, 109, 97, 121, 32, 98, 101]
  | .budget => [116, 104, 101, 32, 98, 117, 100, 103, 101, 116, 32, 105, 115, 32, 117, 115, 101, 100, 32, 117, 112]
  | .range => [97, 32, 110, 117, 109, 98, 101, 114, 32, 111, 117, 116, 32, 111, 102, 32, 105, 116, 115, 32, 114, 97, 110, 103, 101]
  | .blocks => [109, 111, 114, 101, 32, 116, 104, 97, 110, 32, 116, 119, 111, 32, 98, 108, 111, 99, 107, 115]
  | .proof => [97, 32, 115, 116, 101, 112, 32, 116, 104, 97, 116, 32, 100, 111, 101, 115, 32, 110, 111, 116, 32, 102, 111, 108, 108, 111, 119]
  | .cert => [110, 111, 32, 99, 101, 114, 116, 105, 102, 105, 99, 97, 116, 101, 32, 111, 102, 32, 105, 116]
def Er.code : Er → Int
  | .text => 101
  | .limit => 102
  | .budget => 103
  | .range => 104
  | .blocks => 105
  | .proof => 106
  | .cert => 107
def Er.all : List Er := [.text, .limit, .budget, .range, .blocks, .proof, .cert]
theorem Er.s_inj {e e' : Er} (h : e.s = e'.s) : e = e' := by
  revert h; cases e <;> cases e' <;> first | (intro _; rfl) | (intro h; exact absurd h (by decide))

/-- A value is this error. -/
def IsE (σ : Heap) (v : AVal) (e : Er) : Prop := e.g < σ.next ∧ σ.get e.g = some (.cells .rz 1 [v]) ∧ ∃ k, v = .ifc tErr (.ptr k 0) ∧ k < σ.next ∧ σ.get k = some (.cells .rz 1 [.str ⟨e.s.toArray⟩])
/-- Some errors' variables are there. -/
def GlS (E : List Er) (σ : Heap) : Prop := ∀ e ∈ E, ∃ v, IsE σ v e
abbrev GlAll (σ : Heap) : Prop := GlS Er.all σ
/-- An error as0 plain data. -/
abbrev Flt := Option (Er × Option Int)
def IsF (σ : Heap) (v : AVal) : Flt → Prop
  | none => v = .nili
  | some (e, none) => IsE σ v e
  | some (e, some pos) => ∃ l u, v = .ifc tAt (.ptr l 0) ∧ At σ (.ptr l 0) [.int .i64 pos, u] ∧ IsE σ u e
def fcells : Flt → List AVal
  | none => [.int .i64 0, .bool false, .int .i64 0]
  | some (e, none) => [.int .i64 e.code, .bool false, .int .i64 0]
  | some (e, some pos) => [.int .i64 e.code, .bool true, .int .i64 pos]

section
variable {σ τ : Heap} {v w : AVal} {e e' : Er} {f : Flt}
theorem IsE.mono (h : IsE σ v e) (L : Hle σ τ) : IsE τ v e := by
  obtain ⟨h1, h2, k, h3, h4, h5⟩ := h
  exact ⟨Nat.lt_of_lt_of_le h1 L.next, L.get _ _ h1 h2, k, h3, Nat.lt_of_lt_of_le h4 L.next, L.get _ _ h4 h5⟩
theorem GlS.mono {E : List Er} (h : GlS E σ) (L : Hle σ τ) : GlS E τ := fun e he => (h e he).elim fun v hv => ⟨v, hv.mono L⟩
theorem GlS.sub {E F : List Er} (h : GlS E σ) (k : ∀ e ∈ F, e ∈ E) : GlS F σ := fun e he => h e (k e he)
theorem IsF.mono (h : IsF σ v f) (L : Hle σ τ) : IsF τ v f := by
  match f, h with
  | none, h => exact h
  | some (e, none), h => exact IsE.mono h L
  | some (e, some pos), ⟨l, u, h1, h2, h3⟩ => exact ⟨l, u, h1, h2.mono L, h3.mono L⟩
theorem IsE.at (h : IsE σ v e) : At σ (.ptr e.g 0) [v] := At.of_get h.1 h.2.1
theorem IsE.inj (h : IsE σ v e) (k : IsE σ w e) : v = w := by
  have := h.2.1.symm.trans k.2.1
  simpa using this
theorem IsE.eqI (h : IsE σ v e) (k : IsE σ w e') {Rt : Type} (cn : Bool) (K : Bool → Option Rt) : eqI (tiOf prg) σ cn v w K = K (decide (e = e')) := by
  obtain ⟨ti, el, ei, q1, q2, q3, q4, q5⟩ := ti_err
  by_cases he : e = e'
  · subst he
    obtain rfl := h.inj k
    obtain ⟨h1, h2, a, rfl, h4, h5⟩ := h
    simp [A.eqI, q1, q2, q3, q4, q5]
  · obtain ⟨h1, h2, a, rfl, h4, h5⟩ := h
    obtain ⟨k1, k2, b, rfl, k4, k5⟩ := k
    have hne : e.s ≠ e'.s := fun hs => he (Er.s_inj hs)
    have hab : a ≠ b := fun hab => by
      subst hab; rw [h5] at k5; simp at k5; exact hne k5
    have hs : strNe [AVal.str ⟨e.s.toArray⟩][0]? [AVal.str ⟨e'.s.toArray⟩][0]? = true := by
      simp [strNe]; exact hne
    simp only [A.eqI, if_pos, q1, q2, q3, q4, q5, h5, k5, if_neg hab, Bool.not_true, Bool.or_false, cond_false, decide_eq_false he, hs]
    rw [if_pos (.inr ⟨rfl, rfl, trivial⟩)]
theorem IsF.nil (h : IsF σ v f) {Rt : Type} (K : Bool → Option Rt) : A.eqI (tiOf prg) σ true v .nili K = K f.isNone := by
  match f, h with
  | none, h => subst h; rfl
  | some (e, none), ⟨_, _, k, h, _⟩ => subst h; rfl
  | some (e, some pos), ⟨l, u, h, _⟩ => subst h; rfl
theorem IsF.scal (h : IsF σ v f) {Rt : Type} (X : Option Rt) : A.scal v X = X := by
  match f, h with
  | none, h => subst h; rfl
  | some (e, none), ⟨_, _, k, h, _⟩ => subst h; rfl
  | some (e, some pos), ⟨l, u, h, _⟩ => subst h; rfl
theorem IsE.scal (h : IsE σ v e) {Rt : Type} (X : Option Rt) : A.scal v X = X := by
  obtain ⟨_, _, k, h, _⟩ := h; subst h; rfl
end

section
variable {R : Type} {σ : Heap} {v w : AVal} {e e' : Er} {f : Flt} {Q : R → Prop}
theorem W.eI (h : IsE σ v e) (k : IsE σ w e') {cn : Bool} {K : Bool → Option R} (c : W (K (decide (e = e'))) Q) : W (eqI (tiOf prg) σ cn v w K) Q := W.to (h.eqI k cn K) c
theorem W.fnil (h : IsF σ v f) {K : Bool → Option R} (c : W (K f.isNone) Q) : W (eqI (tiOf prg) σ true v .nili K) Q := W.to (h.nil K) c
theorem W.enil (h : IsE σ v e) {K : Bool → Option R} (c : W (K false) Q) : W (eqI (tiOf prg) σ true v .nili K) Q := by
  obtain ⟨_, _, k, h, _⟩ := h; subst h; exact c
theorem W.escal (h : IsE σ v e) {X : Option R} (c : W X Q) : W (scal v X) Q := W.to (h.scal X) c
theorem W.fscal (h : IsF σ v f) {X : Option R} (c : W X Q) : W (scal v X) Q := W.to (h.scal X) c
theorem W.glob {E : List Er} (h : GlS E σ) (e : Er) {K : AVal → Option R} (c : ∀ v, IsE σ v e → W (K v) Q) {g : Nat} (hg : g = e.g := by rfl) (he : e ∈ E := by decide) : W (ld σ (.ptr g 0) .V K) Q := by
  subst hg
  obtain ⟨v, hv⟩ := h e he
  exact W.ld0 hv.at rfl (c v hv)
end

theorem alike_w {σ : Heap} {v w : AVal} {e e' : Er} (h : IsE σ v e) (k : IsE σ w e') : W (S.skolemsee_Alike v w σ) fun r => r = decide (e = e') := by
  unfold S.skolemsee_Alike
  repeat' (first | (with_reducible (first | refine W.next ?_ | refine W.stop ?_ | refine W.nextP ?_ | refine W.stopP ?_ | refine W.ret ?_ | refine W.bind ?_ | refine W.asI ?_ | refine W.asB ?_ | refine W.asV ?_ | refine W.asS ?_ | refine W.chk rfl ?_ | refine W.aggK (by with_unfolding_all rfl) ?_ | refine W.fldp ?_ | refine W.fldfld ?_ | refine W.lenN ?_ | refine W.len (by assumption) ?_ | refine W.len (SlV.mono (by assumption) (by assumption)) ?_ | refine W.ldL (by assumption) (by with_unfolding_all rfl) ?_ | refine W.ldp (by assumption) (by with_unfolding_all rfl) ?_ | refine W.ldGL (by assumption) (Nat.le_of_ble_eq_true (by with_unfolding_all rfl)) ?_ | refine W.fldld (by assumption) (by with_unfolding_all rfl) ?_ | refine W.ld0 (by assumption) (by with_unfolding_all rfl) ?_ | refine W.ldGG (by assumption) (by with_unfolding_all rfl) ?_ | refine W.ixIc (by assumption) (by assumption) ?_ | refine W.ixIc (SlV.mono (by assumption) (by assumption)) (by assumption) ?_ | refine W.ixBc (by assumption) (by assumption) ?_ | refine W.nnil ?_ | refine W.inil ?_ | refine W.scalS (by assumption) ?_ | refine W.scalS (SlV.mono (by assumption) (by assumption)) ?_ | refine W.nck ?_ | refine W.scI ?_ | refine W.scB ?_ | refine W.scP ?_ | refine W.scM ?_ | refine W.scN ?_ | refine W.scNp ?_ | refine W.scNi ?_ | refine W.scIf ?_ | refine W.scSl ?_ | refine W.putC (by with_unfolding_all rfl) ?_)) | (with_reducible refine W.condT ?_ ?_; focus (first | (simp only [q1, q2, q3, q4, q5, q6, q7, q8, q9, q10, q11, q12, q13, q14, q15, q16, q17, q18, q19, q20, q21, q22, q23, q24, q25, q26, q27, q28, q29, q30]; done) | (simp only [q1, q2, q3, q4, q5, q6, q7, q8, q9, q10, q11, q12, q13, q14, q15, q16, q17, q18, q19, q20, q21, q22, q23, q24, q25, q26, q27, q28, q29, q30]; omega) | assumption)) | (with_reducible refine W.condF ?_ ?_; focus (first | (simp only [q1, q2, q3, q4, q5, q6, q7, q8, q9, q10, q11, q12, q13, q14, q15, q16, q17, q18, q19, q20, q21, q22, q23, q24, q25, q26, q27, q28, q29, q30]; done) | (simp only [q1, q2, q3, q4, q5, q6, q7, q8, q9, q10, q11, q12, q13, q14, q15, q16, q17, q18, q19, q20, q21, q22, q23, q24, q25, q26, q27, q28, q29, q30]; omega) | assumption)) | refine W.enil (by assumption) ?_ | refine W.eI (by assumption) (by assumption) ?_)
  rfl

def vE : Vw Er := ⟨1, fun σ e us => ∃ x, us = [x] ∧ IsE σ x e, Nat.one_pos, fun h => by obtain ⟨_, rfl, _⟩ := h; rfl, fun L h => by
  obtain ⟨x, e, h⟩ := h
  exact ⟨x, e, h.mono L⟩⟩

theorem sentinel_w {σ : Heap} {v : AVal} {e : Er} (hg : GlAll σ) (h : IsE σ v e) : W (S.skolemsee_sentinel v σ) fun r => r.1 = e.code ∧ Hle σ r.2 := by
  unfold S.skolemsee_sentinel S.skolemsee_sentinels
  refine W.bind ?_
  refine W.glob hg .text fun v1 h1 => W.glob hg .limit fun v2 h2 => W.glob hg .budget fun v3 h3 => W.glob hg .range fun v4 h4 => W.glob hg .blocks fun v5 h5 => W.glob hg .proof fun v6 h6 => W.glob hg .cert fun v7 h7 => ?_
  refine W.escal h1 (W.escal h2 (W.escal h3 (W.escal h4 (W.escal h5 (W.escal h6 (W.escal h7 ?_))))))
  refine W.newg fun l τ hl L hA hgl hn => ?_
  repeat' (with_reducible (first | refine W.next ?_ | refine W.stop ?_ | refine W.nextP ?_ | refine W.stopP ?_ | refine W.ret ?_ | refine W.bind ?_ | refine W.asI ?_ | refine W.asB ?_ | refine W.asV ?_ | refine W.asS ?_ | refine W.chk rfl ?_ | refine W.aggK (by with_unfolding_all rfl) ?_ | refine W.fldp ?_ | refine W.fldfld ?_ | refine W.lenN ?_ | refine W.len (by assumption) ?_ | refine W.len (SlV.mono (by assumption) (by assumption)) ?_ | refine W.ldL (by assumption) (by with_unfolding_all rfl) ?_ | refine W.ldp (by assumption) (by with_unfolding_all rfl) ?_ | refine W.ldGL (by assumption) (Nat.le_of_ble_eq_true (by with_unfolding_all rfl)) ?_ | refine W.fldld (by assumption) (by with_unfolding_all rfl) ?_ | refine W.ld0 (by assumption) (by with_unfolding_all rfl) ?_ | refine W.ldGG (by assumption) (by with_unfolding_all rfl) ?_ | refine W.ixIc (by assumption) (by assumption) ?_ | refine W.ixIc (SlV.mono (by assumption) (by assumption)) (by assumption) ?_ | refine W.ixBc (by assumption) (by assumption) ?_ | refine W.nnil ?_ | refine W.inil ?_ | refine W.scalS (by assumption) ?_ | refine W.scalS (SlV.mono (by assumption) (by assumption)) ?_ | refine W.nck ?_ | refine W.scI ?_ | refine W.scB ?_ | refine W.scP ?_ | refine W.scM ?_ | refine W.scN ?_ | refine W.scNp ?_ | refine W.scNi ?_ | refine W.scIf ?_ | refine W.scSl ?_ | refine W.putC (by with_unfolding_all rfl) ?_))
  have hsl : SlV vE τ Er.all (.sl l 0 7 none) := .inr ⟨l, 0, none, .rw, _, rfl, by omega, hgl, Nat.le_of_ble_eq_true rfl, fun i u hi => by
    match i, hi with
    | 0, hi => cases hi; exact ⟨v1, rfl, h1.mono L⟩
    | 1, hi => cases hi; exact ⟨v2, rfl, h2.mono L⟩
    | 2, hi => cases hi; exact ⟨v3, rfl, h3.mono L⟩
    | 3, hi => cases hi; exact ⟨v4, rfl, h4.mono L⟩
    | 4, hi => cases hi; exact ⟨v5, rfl, h5.mono L⟩
    | 5, hi => cases hi; exact ⟨v6, rfl, h6.mono L⟩
    | 6, hi => cases hi; exact ⟨v7, rfl, h7.mono L⟩
    | k + 7, hi => simp [Er.all] at hi⟩
  replace h := h.mono L
  have hnx := L.next
  refine W.loopP 7 (fun i x => x = (i : Int) ∧ ∀ j u, j < i → Er.all[j]? = some u → e ≠ u) ⟨rfl, fun j u hj => by omega⟩ fun i x hi hI => ?_
  obtain ⟨rfl, hI⟩ := hI
  unfold S.skolemsee_sentinel.b0
  repeat' (first | (with_reducible (first | refine W.next ?_ | refine W.stop ?_ | refine W.nextP ?_ | refine W.stopP ?_ | refine W.ret ?_ | refine W.bind ?_ | refine W.asI ?_ | refine W.asB ?_ | refine W.asV ?_ | refine W.asS ?_ | refine W.chk rfl ?_ | refine W.aggK (by with_unfolding_all rfl) ?_ | refine W.fldp ?_ | refine W.fldfld ?_ | refine W.lenN ?_ | refine W.len (by assumption) ?_ | refine W.len (SlV.mono (by assumption) (by assumption)) ?_ | refine W.ldL (by assumption) (by with_unfolding_all rfl) ?_ | refine W.ldp (by assumption) (by with_unfolding_all rfl) ?_ | refine W.ldGL (by assumption) (Nat.le_of_ble_eq_true (by with_unfolding_all rfl)) ?_ | refine W.fldld (by assumption) (by with_unfolding_all rfl) ?_ | refine W.ld0 (by assumption) (by with_unfolding_all rfl) ?_ | refine W.ldGG (by assumption) (by with_unfolding_all rfl) ?_ | refine W.ixIc (by assumption) (by assumption) ?_ | refine W.ixIc (SlV.mono (by assumption) (by assumption)) (by assumption) ?_ | refine W.ixBc (by assumption) (by assumption) ?_ | refine W.nnil ?_ | refine W.inil ?_ | refine W.scalS (by assumption) ?_ | refine W.scalS (SlV.mono (by assumption) (by assumption)) ?_ | refine W.nck ?_ | refine W.scI ?_ | refine W.scB ?_ | refine W.scP ?_ | refine W.scM ?_ | refine W.scN ?_ | refine W.scNp ?_ | refine W.scNi ?_ | refine W.scIf ?_ | refine W.scSl ?_ | refine W.putC (by with_unfolding_all rfl) ?_)) | (with_reducible refine W.condT ?_ ?_; focus (first | (simp only [q1, q2, q3, q4, q5, q6, q7, q8, q9, q10, q11, q12, q13, q14, q15, q16, q17, q18, q19, q20, q21, q22, q23, q24, q25, q26, q27, q28, q29, q30]; done) | (simp only [q1, q2, q3, q4, q5, q6, q7, q8, q9, q10, q11, q12, q13, q14, q15, q16, q17, q18, q19, q20, q21, q22, q23, q24, q25, q26, q27, q28, q29, q30]; omega) | assumption)) | (with_reducible refine W.condF ?_ ?_; focus (first | (simp only [q1, q2, q3, q4, q5, q6, q7, q8, q9, q10, q11, q12, q13, q14, q15, q16, q17, q18, q19, q20, q21, q22, q23, q24, q25, q26, q27, q28, q29, q30]; done) | (simp only [q1, q2, q3, q4, q5, q6, q7, q8, q9, q10, q11, q12, q13, q14, q15, q16, q17, q18, q19, q20, q21, q22, q23, q24, q25, q26, q27, q28, q29, q30]; omega) | assumption)) | (with_reducible refine W.cnd (fun hc => ?_) (fun hc => ?_) <;> (try simp only [q1, q2, q3, q4, q5, q6, q7, q8, q9, q10, q11, q12, q13, q14, q15, q16, q17, q18, q19, q20, q21, q22, q23, q24, q25, q26, q27, q28, q29, q30] at hc) <;> (try (exfalso; omega))))
  · refine W.ixc hsl (by omega) fun p ps u hu hp hr => ?_
    obtain ⟨x, rfl, hx⟩ := hr
    repeat' (with_reducible (first | refine W.next ?_ | refine W.stop ?_ | refine W.nextP ?_ | refine W.stopP ?_ | refine W.ret ?_ | refine W.bind ?_ | refine W.asI ?_ | refine W.asB ?_ | refine W.asV ?_ | refine W.asS ?_ | refine W.chk rfl ?_ | refine W.aggK (by with_unfolding_all rfl) ?_ | refine W.fldp ?_ | refine W.fldfld ?_ | refine W.lenN ?_ | refine W.len (by assumption) ?_ | refine W.len (SlV.mono (by assumption) (by assumption)) ?_ | refine W.ldL (by assumption) (by with_unfolding_all rfl) ?_ | refine W.ldp (by assumption) (by with_unfolding_all rfl) ?_ | refine W.ldGL (by assumption) (Nat.le_of_ble_eq_true (by with_unfolding_all rfl)) ?_ | refine W.fldld (by assumption) (by with_unfolding_all rfl) ?_ | refine W.ld0 (by assumption) (by with_unfolding_all rfl) ?_ | refine W.ldGG (by assumption) (by with_unfolding_all rfl) ?_ | refine W.ixIc (by assumption) (by assumption) ?_ | refine W.ixIc (SlV.mono (by assumption) (by assumption)) (by assumption) ?_ | refine W.ixBc (by assumption) (by assumption) ?_ | refine W.nnil ?_ | refine W.inil ?_ | refine W.scalS (by assumption) ?_ | refine W.scalS (SlV.mono (by assumption) (by assumption)) ?_ | refine W.nck ?_ | refine W.scI ?_ | refine W.scB ?_ | refine W.scP ?_ | refine W.scM ?_ | refine W.scN ?_ | refine W.scNp ?_ | refine W.scNi ?_ | refine W.scIf ?_ | refine W.scSl ?_ | refine W.putC (by with_unfolding_all rfl) ?_))
    refine W.mono (alike_w h hx) fun r hr => ?_
    subst hr
    (with_reducible refine W.cnd (fun hq => ?_) (fun hq => ?_) <;> (try simp only [q1, q2, q3, q4, q5, q6, q7, q8, q9, q10, q11, q12, q13, q14, q15, q16, q17, q18, q19, q20, q21, q22, q23, q24, q25, q26, q27, q28, q29, q30] at hq) <;> (try (exfalso; omega)))
    · repeat' (with_reducible (first | refine W.next ?_ | refine W.stop ?_ | refine W.nextP ?_ | refine W.stopP ?_ | refine W.ret ?_ | refine W.bind ?_ | refine W.asI ?_ | refine W.asB ?_ | refine W.asV ?_ | refine W.asS ?_ | refine W.chk rfl ?_ | refine W.aggK (by with_unfolding_all rfl) ?_ | refine W.fldp ?_ | refine W.fldfld ?_ | refine W.lenN ?_ | refine W.len (by assumption) ?_ | refine W.len (SlV.mono (by assumption) (by assumption)) ?_ | refine W.ldL (by assumption) (by with_unfolding_all rfl) ?_ | refine W.ldp (by assumption) (by with_unfolding_all rfl) ?_ | refine W.ldGL (by assumption) (Nat.le_of_ble_eq_true (by with_unfolding_all rfl)) ?_ | refine W.fldld (by assumption) (by with_unfolding_all rfl) ?_ | refine W.ld0 (by assumption) (by with_unfolding_all rfl) ?_ | refine W.ldGG (by assumption) (by with_unfolding_all rfl) ?_ | refine W.ixIc (by assumption) (by assumption) ?_ | refine W.ixIc (SlV.mono (by assumption) (by assumption)) (by assumption) ?_ | refine W.ixBc (by assumption) (by assumption) ?_ | refine W.nnil ?_ | refine W.inil ?_ | refine W.scalS (by assumption) ?_ | refine W.scalS (SlV.mono (by assumption) (by assumption)) ?_ | refine W.nck ?_ | refine W.scI ?_ | refine W.scB ?_ | refine W.scP ?_ | refine W.scM ?_ | refine W.scN ?_ | refine W.scNp ?_ | refine W.scNi ?_ | refine W.scIf ?_ | refine W.scSl ?_ | refine W.putC (by with_unfolding_all rfl) ?_))
      subst hq
      refine ⟨?_, L⟩
      have : IntKind.i64.wrap (101 + (i : Int)) = 101 + i := by rw [wrapS] <;> omega
      rw [this]
      have : i < 7 := by simp [Er.all] at *; omega
      match i, hu with
      | 0, hu => cases hu; rfl
      | 1, hu => cases hu; rfl
      | 2, hu => cases hu; rfl
      | 3, hu => cases hu; rfl
      | 4, hu => cases hu; rfl
      | 5, hu => cases hu; rfl
      | 6, hu => cases hu; rfl
      | k + 7, hu => omega
    · repeat' (with_reducible (first | refine W.next ?_ | refine W.stop ?_ | refine W.nextP ?_ | refine W.stopP ?_ | refine W.ret ?_ | refine W.bind ?_ | refine W.asI ?_ | refine W.asB ?_ | refine W.asV ?_ | refine W.asS ?_ | refine W.chk rfl ?_ | refine W.aggK (by with_unfolding_all rfl) ?_ | refine W.fldp ?_ | refine W.fldfld ?_ | refine W.lenN ?_ | refine W.len (by assumption) ?_ | refine W.len (SlV.mono (by assumption) (by assumption)) ?_ | refine W.ldL (by assumption) (by with_unfolding_all rfl) ?_ | refine W.ldp (by assumption) (by with_unfolding_all rfl) ?_ | refine W.ldGL (by assumption) (Nat.le_of_ble_eq_true (by with_unfolding_all rfl)) ?_ | refine W.fldld (by assumption) (by with_unfolding_all rfl) ?_ | refine W.ld0 (by assumption) (by with_unfolding_all rfl) ?_ | refine W.ldGG (by assumption) (by with_unfolding_all rfl) ?_ | refine W.ixIc (by assumption) (by assumption) ?_ | refine W.ixIc (SlV.mono (by assumption) (by assumption)) (by assumption) ?_ | refine W.ixBc (by assumption) (by assumption) ?_ | refine W.nnil ?_ | refine W.inil ?_ | refine W.scalS (by assumption) ?_ | refine W.scalS (SlV.mono (by assumption) (by assumption)) ?_ | refine W.nck ?_ | refine W.scI ?_ | refine W.scB ?_ | refine W.scP ?_ | refine W.scM ?_ | refine W.scN ?_ | refine W.scNp ?_ | refine W.scNi ?_ | refine W.scIf ?_ | refine W.scSl ?_ | refine W.putC (by with_unfolding_all rfl) ?_))
      have w2 : IntKind.i64.wrap ((i : Int) + 1) = ((i + 1 : Nat) : Int) := by rw [wrapS] <;> omega
      have : i < 7 := by simp [Er.all] at *; omega
      refine ⟨this, w2, fun j u' hj hu' he => ?_⟩
      rcases Nat.lt_succ_iff_lt_or_eq.1 hj with hj | rfl
      · exact hI j u' hj hu' he
      · rw [hu] at hu'; cases hu'; exact hq he
  · exfalso
    have h7 : i = 7 := by simp [Er.all] at hc; omega
    subst h7
    cases e
    · exact hI 0 _ (by omega) rfl rfl
    · exact hI 1 _ (by omega) rfl rfl
    · exact hI 2 _ (by omega) rfl rfl
    · exact hI 3 _ (by omega) rfl rfl
    · exact hI 4 _ (by omega) rfl rfl
    · exact hI 5 _ (by omega) rfl rfl
    · exact hI 6 _ (by omega) rfl rfl

theorem none_w {σ : Heap} : W (S.skolemref_None σ) fun r => r.1 = .agg (fcells none) ∧ Hle σ r.2 := by
  unfold S.skolemref_None
  refine W.new fun l τ hl L h hnτ => ?_
  refine W.st0 h (by rfl) fun τ2 L2 hnτ2 h => ?_
  repeat' (with_reducible (first | refine W.next ?_ | refine W.stop ?_ | refine W.nextP ?_ | refine W.stopP ?_ | refine W.ret ?_ | refine W.bind ?_ | refine W.asI ?_ | refine W.asB ?_ | refine W.asV ?_ | refine W.asS ?_ | refine W.chk rfl ?_ | refine W.aggK (by with_unfolding_all rfl) ?_ | refine W.fldp ?_ | refine W.fldfld ?_ | refine W.lenN ?_ | refine W.len (by assumption) ?_ | refine W.len (SlV.mono (by assumption) (by assumption)) ?_ | refine W.ldL (by assumption) (by with_unfolding_all rfl) ?_ | refine W.ldp (by assumption) (by with_unfolding_all rfl) ?_ | refine W.ldGL (by assumption) (Nat.le_of_ble_eq_true (by with_unfolding_all rfl)) ?_ | refine W.fldld (by assumption) (by with_unfolding_all rfl) ?_ | refine W.ld0 (by assumption) (by with_unfolding_all rfl) ?_ | refine W.ldGG (by assumption) (by with_unfolding_all rfl) ?_ | refine W.ixIc (by assumption) (by assumption) ?_ | refine W.ixIc (SlV.mono (by assumption) (by assumption)) (by assumption) ?_ | refine W.ixBc (by assumption) (by assumption) ?_ | refine W.nnil ?_ | refine W.inil ?_ | refine W.scalS (by assumption) ?_ | refine W.scalS (SlV.mono (by assumption) (by assumption)) ?_ | refine W.nck ?_ | refine W.scI ?_ | refine W.scB ?_ | refine W.scP ?_ | refine W.scM ?_ | refine W.scN ?_ | refine W.scNp ?_ | refine W.scNi ?_ | refine W.scIf ?_ | refine W.scSl ?_ | refine W.putC (by with_unfolding_all rfl) ?_))
  exact ⟨rfl, L.ofk (by omega) L2⟩
theorem bare_w {σ : Heap} {n : Int} : W (S.skolemref_Bare n σ) fun r => r.1 = .agg [.int .i64 n, .bool false, .int .i64 0] ∧ Hle σ r.2 := by
  unfold S.skolemref_Bare
  refine W.new fun l τ hl L h hnτ => ?_
  refine W.st0 h (by rfl) fun τ2 L2 hnτ2 h => ?_
  repeat' (with_reducible (first | refine W.next ?_ | refine W.stop ?_ | refine W.nextP ?_ | refine W.stopP ?_ | refine W.ret ?_ | refine W.bind ?_ | refine W.asI ?_ | refine W.asB ?_ | refine W.asV ?_ | refine W.asS ?_ | refine W.chk rfl ?_ | refine W.aggK (by with_unfolding_all rfl) ?_ | refine W.fldp ?_ | refine W.fldfld ?_ | refine W.lenN ?_ | refine W.len (by assumption) ?_ | refine W.len (SlV.mono (by assumption) (by assumption)) ?_ | refine W.ldL (by assumption) (by with_unfolding_all rfl) ?_ | refine W.ldp (by assumption) (by with_unfolding_all rfl) ?_ | refine W.ldGL (by assumption) (Nat.le_of_ble_eq_true (by with_unfolding_all rfl)) ?_ | refine W.fldld (by assumption) (by with_unfolding_all rfl) ?_ | refine W.ld0 (by assumption) (by with_unfolding_all rfl) ?_ | refine W.ldGG (by assumption) (by with_unfolding_all rfl) ?_ | refine W.ixIc (by assumption) (by assumption) ?_ | refine W.ixIc (SlV.mono (by assumption) (by assumption)) (by assumption) ?_ | refine W.ixBc (by assumption) (by assumption) ?_ | refine W.nnil ?_ | refine W.inil ?_ | refine W.scalS (by assumption) ?_ | refine W.scalS (SlV.mono (by assumption) (by assumption)) ?_ | refine W.nck ?_ | refine W.scI ?_ | refine W.scB ?_ | refine W.scP ?_ | refine W.scM ?_ | refine W.scN ?_ | refine W.scNp ?_ | refine W.scNi ?_ | refine W.scIf ?_ | refine W.scSl ?_ | refine W.putC (by with_unfolding_all rfl) ?_))
  exact ⟨rfl, L.ofk (by omega) L2⟩
theorem placed_w {σ : Heap} {n p : Int} (hn : n ≠ 0) : W (S.skolemref_Placed n p σ) fun r => r.1 = .agg [.int .i64 n, .bool true, .int .i64 p] ∧ Hle σ r.2 := by
  unfold S.skolemref_Placed
  refine W.new fun l τ hl L h hnτ => ?_
  (with_reducible refine W.cnd (fun hc => ?_) (fun hc => ?_) <;> (try simp only [q1, q2, q3, q4, q5, q6, q7, q8, q9, q10, q11, q12, q13, q14, q15, q16, q17, q18, q19, q20, q21, q22, q23, q24, q25, q26, q27, q28, q29, q30] at hc) <;> (try (exfalso; omega)))
  refine W.st0 h (by rfl) fun τ2 L2 hnτ2 h => ?_
  repeat' (with_reducible (first | refine W.next ?_ | refine W.stop ?_ | refine W.nextP ?_ | refine W.stopP ?_ | refine W.ret ?_ | refine W.bind ?_ | refine W.asI ?_ | refine W.asB ?_ | refine W.asV ?_ | refine W.asS ?_ | refine W.chk rfl ?_ | refine W.aggK (by with_unfolding_all rfl) ?_ | refine W.fldp ?_ | refine W.fldfld ?_ | refine W.lenN ?_ | refine W.len (by assumption) ?_ | refine W.len (SlV.mono (by assumption) (by assumption)) ?_ | refine W.ldL (by assumption) (by with_unfolding_all rfl) ?_ | refine W.ldp (by assumption) (by with_unfolding_all rfl) ?_ | refine W.ldGL (by assumption) (Nat.le_of_ble_eq_true (by with_unfolding_all rfl)) ?_ | refine W.fldld (by assumption) (by with_unfolding_all rfl) ?_ | refine W.ld0 (by assumption) (by with_unfolding_all rfl) ?_ | refine W.ldGG (by assumption) (by with_unfolding_all rfl) ?_ | refine W.ixIc (by assumption) (by assumption) ?_ | refine W.ixIc (SlV.mono (by assumption) (by assumption)) (by assumption) ?_ | refine W.ixBc (by assumption) (by assumption) ?_ | refine W.nnil ?_ | refine W.inil ?_ | refine W.scalS (by assumption) ?_ | refine W.scalS (SlV.mono (by assumption) (by assumption)) ?_ | refine W.nck ?_ | refine W.scI ?_ | refine W.scB ?_ | refine W.scP ?_ | refine W.scM ?_ | refine W.scN ?_ | refine W.scNp ?_ | refine W.scNi ?_ | refine W.scIf ?_ | refine W.scSl ?_ | refine W.putC (by with_unfolding_all rfl) ?_))
  exact ⟨rfl, L.ofk (by omega) L2⟩
theorem Er.code_ne (e : Er) : e.code ≠ 0 := by cases e <;> decide
theorem fault_w {σ : Heap} {v : AVal} {f : Flt} (hg : GlAll σ) (h : IsF σ v f) : W (S.skolemsee_Fault v σ) fun r => r.1 = .agg (fcells f) ∧ Hle σ r.2 := by
  unfold S.skolemsee_Fault
  refine W.new fun l τ hl L hl hnτ => ?_
  replace h := h.mono L
  replace hg := hg.mono L
  have hnx := L.next
  refine W.fnil h ?_
  match f, h with
  | none, h =>
    refine W.cnd (fun _ => ?_) (fun hc => by cases hc)
    refine W.call none_w fun r ⟨hr, L2⟩ => ?_
    obtain ⟨r, τ2⟩ := r
    simp only at hr L2; subst hr
    replace hl := hl.mono L2
    have hnx := L2.next
    repeat' (with_reducible (first | refine W.next ?_ | refine W.stop ?_ | refine W.nextP ?_ | refine W.stopP ?_ | refine W.ret ?_ | refine W.bind ?_ | refine W.asI ?_ | refine W.asB ?_ | refine W.asV ?_ | refine W.asS ?_ | refine W.chk rfl ?_ | refine W.aggK (by with_unfolding_all rfl) ?_ | refine W.fldp ?_ | refine W.fldfld ?_ | refine W.lenN ?_ | refine W.len (by assumption) ?_ | refine W.len (SlV.mono (by assumption) (by assumption)) ?_ | refine W.ldL (by assumption) (by with_unfolding_all rfl) ?_ | refine W.ldp (by assumption) (by with_unfolding_all rfl) ?_ | refine W.ldGL (by assumption) (Nat.le_of_ble_eq_true (by with_unfolding_all rfl)) ?_ | refine W.fldld (by assumption) (by with_unfolding_all rfl) ?_ | refine W.ld0 (by assumption) (by with_unfolding_all rfl) ?_ | refine W.ldGG (by assumption) (by with_unfolding_all rfl) ?_ | refine W.ixIc (by assumption) (by assumption) ?_ | refine W.ixIc (SlV.mono (by assumption) (by assumption)) (by assumption) ?_ | refine W.ixBc (by assumption) (by assumption) ?_ | refine W.nnil ?_ | refine W.inil ?_ | refine W.scalS (by assumption) ?_ | refine W.scalS (SlV.mono (by assumption) (by assumption)) ?_ | refine W.nck ?_ | refine W.scI ?_ | refine W.scB ?_ | refine W.scP ?_ | refine W.scM ?_ | refine W.scN ?_ | refine W.scNp ?_ | refine W.scNi ?_ | refine W.scIf ?_ | refine W.scSl ?_ | refine W.putC (by with_unfolding_all rfl) ?_))
    refine W.st0 hl (by rfl) fun τ3 L3 hnτ3 hl => ?_
    repeat' (with_reducible (first | refine W.next ?_ | refine W.stop ?_ | refine W.nextP ?_ | refine W.stopP ?_ | refine W.ret ?_ | refine W.bind ?_ | refine W.asI ?_ | refine W.asB ?_ | refine W.asV ?_ | refine W.asS ?_ | refine W.chk rfl ?_ | refine W.aggK (by with_unfolding_all rfl) ?_ | refine W.fldp ?_ | refine W.fldfld ?_ | refine W.lenN ?_ | refine W.len (by assumption) ?_ | refine W.len (SlV.mono (by assumption) (by assumption)) ?_ | refine W.ldL (by assumption) (by with_unfolding_all rfl) ?_ | refine W.ldp (by assumption) (by with_unfolding_all rfl) ?_ | refine W.ldGL (by assumption) (Nat.le_of_ble_eq_true (by with_unfolding_all rfl)) ?_ | refine W.fldld (by assumption) (by with_unfolding_all rfl) ?_ | refine W.ld0 (by assumption) (by with_unfolding_all rfl) ?_ | refine W.ldGG (by assumption) (by with_unfolding_all rfl) ?_ | refine W.ixIc (by assumption) (by assumption) ?_ | refine W.ixIc (SlV.mono (by assumption) (by assumption)) (by assumption) ?_ | refine W.ixBc (by assumption) (by assumption) ?_ | refine W.nnil ?_ | refine W.inil ?_ | refine W.scalS (by assumption) ?_ | refine W.scalS (SlV.mono (by assumption) (by assumption)) ?_ | refine W.nck ?_ | refine W.scI ?_ | refine W.scB ?_ | refine W.scP ?_ | refine W.scM ?_ | refine W.scN ?_ | refine W.scNp ?_ | refine W.scNi ?_ | refine W.scIf ?_ | refine W.scSl ?_ | refine W.putC (by with_unfolding_all rfl) ?_))
    exact ⟨rfl, (L.mono L2).ofk (by omega) L3⟩
  | some (e, none), h =>
    refine W.cnd (fun hc => by cases hc) (fun _ => ?_)
    have he : IsE τ v e := h
    obtain ⟨_, _, k, rfl, _⟩ := id he
    simp only [assertZ, assertK]
    rw [if_neg (by decide)]
    simp only [Bool.not_false, cond_true]
    refine W.call (sentinel_w hg he) fun r ⟨hr, L2⟩ => ?_
    obtain ⟨r, τ2⟩ := r
    simp only at hr L2; subst hr
    replace hl := hl.mono L2
    have hnx := L2.next
    refine W.call bare_w fun r ⟨hr, L3⟩ => ?_
    obtain ⟨r, τ3⟩ := r
    simp only at hr L3; subst hr
    replace hl := hl.mono L3
    have hnx := L3.next
    repeat' (with_reducible (first | refine W.next ?_ | refine W.stop ?_ | refine W.nextP ?_ | refine W.stopP ?_ | refine W.ret ?_ | refine W.bind ?_ | refine W.asI ?_ | refine W.asB ?_ | refine W.asV ?_ | refine W.asS ?_ | refine W.chk rfl ?_ | refine W.aggK (by with_unfolding_all rfl) ?_ | refine W.fldp ?_ | refine W.fldfld ?_ | refine W.lenN ?_ | refine W.len (by assumption) ?_ | refine W.len (SlV.mono (by assumption) (by assumption)) ?_ | refine W.ldL (by assumption) (by with_unfolding_all rfl) ?_ | refine W.ldp (by assumption) (by with_unfolding_all rfl) ?_ | refine W.ldGL (by assumption) (Nat.le_of_ble_eq_true (by with_unfolding_all rfl)) ?_ | refine W.fldld (by assumption) (by with_unfolding_all rfl) ?_ | refine W.ld0 (by assumption) (by with_unfolding_all rfl) ?_ | refine W.ldGG (by assumption) (by with_unfolding_all rfl) ?_ | refine W.ixIc (by assumption) (by assumption) ?_ | refine W.ixIc (SlV.mono (by assumption) (by assumption)) (by assumption) ?_ | refine W.ixBc (by assumption) (by assumption) ?_ | refine W.nnil ?_ | refine W.inil ?_ | refine W.scalS (by assumption) ?_ | refine W.scalS (SlV.mono (by assumption) (by assumption)) ?_ | refine W.nck ?_ | refine W.scI ?_ | refine W.scB ?_ | refine W.scP ?_ | refine W.scM ?_ | refine W.scN ?_ | refine W.scNp ?_ | refine W.scNi ?_ | refine W.scIf ?_ | refine W.scSl ?_ | refine W.putC (by with_unfolding_all rfl) ?_))
    refine W.st0 hl (by rfl) fun τ4 L4 hnτ4 hl => ?_
    repeat' (with_reducible (first | refine W.next ?_ | refine W.stop ?_ | refine W.nextP ?_ | refine W.stopP ?_ | refine W.ret ?_ | refine W.bind ?_ | refine W.asI ?_ | refine W.asB ?_ | refine W.asV ?_ | refine W.asS ?_ | refine W.chk rfl ?_ | refine W.aggK (by with_unfolding_all rfl) ?_ | refine W.fldp ?_ | refine W.fldfld ?_ | refine W.lenN ?_ | refine W.len (by assumption) ?_ | refine W.len (SlV.mono (by assumption) (by assumption)) ?_ | refine W.ldL (by assumption) (by with_unfolding_all rfl) ?_ | refine W.ldp (by assumption) (by with_unfolding_all rfl) ?_ | refine W.ldGL (by assumption) (Nat.le_of_ble_eq_true (by with_unfolding_all rfl)) ?_ | refine W.fldld (by assumption) (by with_unfolding_all rfl) ?_ | refine W.ld0 (by assumption) (by with_unfolding_all rfl) ?_ | refine W.ldGG (by assumption) (by with_unfolding_all rfl) ?_ | refine W.ixIc (by assumption) (by assumption) ?_ | refine W.ixIc (SlV.mono (by assumption) (by assumption)) (by assumption) ?_ | refine W.ixBc (by assumption) (by assumption) ?_ | refine W.nnil ?_ | refine W.inil ?_ | refine W.scalS (by assumption) ?_ | refine W.scalS (SlV.mono (by assumption) (by assumption)) ?_ | refine W.nck ?_ | refine W.scI ?_ | refine W.scB ?_ | refine W.scP ?_ | refine W.scM ?_ | refine W.scN ?_ | refine W.scNp ?_ | refine W.scNi ?_ | refine W.scIf ?_ | refine W.scSl ?_ | refine W.putC (by with_unfolding_all rfl) ?_))
    exact ⟨rfl, ((L.mono L2).mono L3).ofk (by omega) L4⟩
  | some (e, some pos), h =>
    obtain ⟨k, u, rfl, hk, he⟩ := h
    refine W.cnd (fun hc => by cases hc) (fun _ => ?_)
    simp only [assertZ, assertK]
    rw [if_pos (by decide)]
    simp only [Bool.not_true, cond_false, eqP, nilck]
    repeat' (first | (with_reducible (first | refine W.next ?_ | refine W.stop ?_ | refine W.nextP ?_ | refine W.stopP ?_ | refine W.ret ?_ | refine W.bind ?_ | refine W.asI ?_ | refine W.asB ?_ | refine W.asV ?_ | refine W.asS ?_ | refine W.chk rfl ?_ | refine W.aggK (by with_unfolding_all rfl) ?_ | refine W.fldp ?_ | refine W.fldfld ?_ | refine W.lenN ?_ | refine W.len (by assumption) ?_ | refine W.len (SlV.mono (by assumption) (by assumption)) ?_ | refine W.ldL (by assumption) (by with_unfolding_all rfl) ?_ | refine W.ldp (by assumption) (by with_unfolding_all rfl) ?_ | refine W.ldGL (by assumption) (Nat.le_of_ble_eq_true (by with_unfolding_all rfl)) ?_ | refine W.fldld (by assumption) (by with_unfolding_all rfl) ?_ | refine W.ld0 (by assumption) (by with_unfolding_all rfl) ?_ | refine W.ldGG (by assumption) (by with_unfolding_all rfl) ?_ | refine W.ixIc (by assumption) (by assumption) ?_ | refine W.ixIc (SlV.mono (by assumption) (by assumption)) (by assumption) ?_ | refine W.ixBc (by assumption) (by assumption) ?_ | refine W.nnil ?_ | refine W.inil ?_ | refine W.scalS (by assumption) ?_ | refine W.scalS (SlV.mono (by assumption) (by assumption)) ?_ | refine W.nck ?_ | refine W.scI ?_ | refine W.scB ?_ | refine W.scP ?_ | refine W.scM ?_ | refine W.scN ?_ | refine W.scNp ?_ | refine W.scNi ?_ | refine W.scIf ?_ | refine W.scSl ?_ | refine W.putC (by with_unfolding_all rfl) ?_)) | (with_reducible refine W.condT ?_ ?_; focus (first | (simp only [q1, q2, q3, q4, q5, q6, q7, q8, q9, q10, q11, q12, q13, q14, q15, q16, q17, q18, q19, q20, q21, q22, q23, q24, q25, q26, q27, q28, q29, q30]; done) | (simp only [q1, q2, q3, q4, q5, q6, q7, q8, q9, q10, q11, q12, q13, q14, q15, q16, q17, q18, q19, q20, q21, q22, q23, q24, q25, q26, q27, q28, q29, q30]; omega) | assumption)) | (with_reducible refine W.condF ?_ ?_; focus (first | (simp only [q1, q2, q3, q4, q5, q6, q7, q8, q9, q10, q11, q12, q13, q14, q15, q16, q17, q18, q19, q20, q21, q22, q23, q24, q25, q26, q27, q28, q29, q30]; done) | (simp only [q1, q2, q3, q4, q5, q6, q7, q8, q9, q10, q11, q12, q13, q14, q15, q16, q17, q18, q19, q20, q21, q22, q23, q24, q25, q26, q27, q28, q29, q30]; omega) | assumption)) | refine W.enil he ?_)
    repeat' (with_reducible (first | refine W.next ?_ | refine W.stop ?_ | refine W.nextP ?_ | refine W.stopP ?_ | refine W.ret ?_ | refine W.bind ?_ | refine W.asI ?_ | refine W.asB ?_ | refine W.asV ?_ | refine W.asS ?_ | refine W.chk rfl ?_ | refine W.aggK (by with_unfolding_all rfl) ?_ | refine W.fldp ?_ | refine W.fldfld ?_ | refine W.lenN ?_ | refine W.len (by assumption) ?_ | refine W.len (SlV.mono (by assumption) (by assumption)) ?_ | refine W.ldL (by assumption) (by with_unfolding_all rfl) ?_ | refine W.ldp (by assumption) (by with_unfolding_all rfl) ?_ | refine W.ldGL (by assumption) (Nat.le_of_ble_eq_true (by with_unfolding_all rfl)) ?_ | refine W.fldld (by assumption) (by with_unfolding_all rfl) ?_ | refine W.ld0 (by assumption) (by with_unfolding_all rfl) ?_ | refine W.ldGG (by assumption) (by with_unfolding_all rfl) ?_ | refine W.ixIc (by assumption) (by assumption) ?_ | refine W.ixIc (SlV.mono (by assumption) (by assumption)) (by assumption) ?_ | refine W.ixBc (by assumption) (by assumption) ?_ | refine W.nnil ?_ | refine W.inil ?_ | refine W.scalS (by assumption) ?_ | refine W.scalS (SlV.mono (by assumption) (by assumption)) ?_ | refine W.nck ?_ | refine W.scI ?_ | refine W.scB ?_ | refine W.scP ?_ | refine W.scM ?_ | refine W.scN ?_ | refine W.scNp ?_ | refine W.scNi ?_ | refine W.scIf ?_ | refine W.scSl ?_ | refine W.putC (by with_unfolding_all rfl) ?_))
    refine W.mono (sentinel_w hg he) fun r ⟨hr, L2⟩ => ?_
    obtain ⟨r, τ2⟩ := r
    simp only at hr L2; subst hr
    have hk2 := hk.mono L2
    replace hl := hl.mono L2
    have hnx := L2.next
    repeat' (with_reducible (first | refine W.next ?_ | refine W.stop ?_ | refine W.nextP ?_ | refine W.stopP ?_ | refine W.ret ?_ | refine W.bind ?_ | refine W.asI ?_ | refine W.asB ?_ | refine W.asV ?_ | refine W.asS ?_ | refine W.chk rfl ?_ | refine W.aggK (by with_unfolding_all rfl) ?_ | refine W.fldp ?_ | refine W.fldfld ?_ | refine W.lenN ?_ | refine W.len (by assumption) ?_ | refine W.len (SlV.mono (by assumption) (by assumption)) ?_ | refine W.ldL (by assumption) (by with_unfolding_all rfl) ?_ | refine W.ldp (by assumption) (by with_unfolding_all rfl) ?_ | refine W.ldGL (by assumption) (Nat.le_of_ble_eq_true (by with_unfolding_all rfl)) ?_ | refine W.fldld (by assumption) (by with_unfolding_all rfl) ?_ | refine W.ld0 (by assumption) (by with_unfolding_all rfl) ?_ | refine W.ldGG (by assumption) (by with_unfolding_all rfl) ?_ | refine W.ixIc (by assumption) (by assumption) ?_ | refine W.ixIc (SlV.mono (by assumption) (by assumption)) (by assumption) ?_ | refine W.ixBc (by assumption) (by assumption) ?_ | refine W.nnil ?_ | refine W.inil ?_ | refine W.scalS (by assumption) ?_ | refine W.scalS (SlV.mono (by assumption) (by assumption)) ?_ | refine W.nck ?_ | refine W.scI ?_ | refine W.scB ?_ | refine W.scP ?_ | refine W.scM ?_ | refine W.scN ?_ | refine W.scNp ?_ | refine W.scNi ?_ | refine W.scIf ?_ | refine W.scSl ?_ | refine W.putC (by with_unfolding_all rfl) ?_))
    refine W.mono (placed_w e.code_ne) fun r ⟨hr, L3⟩ => ?_
    obtain ⟨r, τ3⟩ := r
    simp only at hr L3; subst hr
    replace hl := hl.mono L3
    have hnx := L3.next
    repeat' (with_reducible (first | refine W.next ?_ | refine W.stop ?_ | refine W.nextP ?_ | refine W.stopP ?_ | refine W.ret ?_ | refine W.bind ?_ | refine W.asI ?_ | refine W.asB ?_ | refine W.asV ?_ | refine W.asS ?_ | refine W.chk rfl ?_ | refine W.aggK (by with_unfolding_all rfl) ?_ | refine W.fldp ?_ | refine W.fldfld ?_ | refine W.lenN ?_ | refine W.len (by assumption) ?_ | refine W.len (SlV.mono (by assumption) (by assumption)) ?_ | refine W.ldL (by assumption) (by with_unfolding_all rfl) ?_ | refine W.ldp (by assumption) (by with_unfolding_all rfl) ?_ | refine W.ldGL (by assumption) (Nat.le_of_ble_eq_true (by with_unfolding_all rfl)) ?_ | refine W.fldld (by assumption) (by with_unfolding_all rfl) ?_ | refine W.ld0 (by assumption) (by with_unfolding_all rfl) ?_ | refine W.ldGG (by assumption) (by with_unfolding_all rfl) ?_ | refine W.ixIc (by assumption) (by assumption) ?_ | refine W.ixIc (SlV.mono (by assumption) (by assumption)) (by assumption) ?_ | refine W.ixBc (by assumption) (by assumption) ?_ | refine W.nnil ?_ | refine W.inil ?_ | refine W.scalS (by assumption) ?_ | refine W.scalS (SlV.mono (by assumption) (by assumption)) ?_ | refine W.nck ?_ | refine W.scI ?_ | refine W.scB ?_ | refine W.scP ?_ | refine W.scM ?_ | refine W.scN ?_ | refine W.scNp ?_ | refine W.scNi ?_ | refine W.scIf ?_ | refine W.scSl ?_ | refine W.putC (by with_unfolding_all rfl) ?_))
    refine W.st0 hl (by rfl) fun τ4 L4 hnτ4 hl => ?_
    repeat' (with_reducible (first | refine W.next ?_ | refine W.stop ?_ | refine W.nextP ?_ | refine W.stopP ?_ | refine W.ret ?_ | refine W.bind ?_ | refine W.asI ?_ | refine W.asB ?_ | refine W.asV ?_ | refine W.asS ?_ | refine W.chk rfl ?_ | refine W.aggK (by with_unfolding_all rfl) ?_ | refine W.fldp ?_ | refine W.fldfld ?_ | refine W.lenN ?_ | refine W.len (by assumption) ?_ | refine W.len (SlV.mono (by assumption) (by assumption)) ?_ | refine W.ldL (by assumption) (by with_unfolding_all rfl) ?_ | refine W.ldp (by assumption) (by with_unfolding_all rfl) ?_ | refine W.ldGL (by assumption) (Nat.le_of_ble_eq_true (by with_unfolding_all rfl)) ?_ | refine W.fldld (by assumption) (by with_unfolding_all rfl) ?_ | refine W.ld0 (by assumption) (by with_unfolding_all rfl) ?_ | refine W.ldGG (by assumption) (by with_unfolding_all rfl) ?_ | refine W.ixIc (by assumption) (by assumption) ?_ | refine W.ixIc (SlV.mono (by assumption) (by assumption)) (by assumption) ?_ | refine W.ixBc (by assumption) (by assumption) ?_ | refine W.nnil ?_ | refine W.inil ?_ | refine W.scalS (by assumption) ?_ | refine W.scalS (SlV.mono (by assumption) (by assumption)) ?_ | refine W.nck ?_ | refine W.scI ?_ | refine W.scB ?_ | refine W.scP ?_ | refine W.scM ?_ | refine W.scN ?_ | refine W.scNp ?_ | refine W.scNi ?_ | refine W.scIf ?_ | refine W.scSl ?_ | refine W.putC (by with_unfolding_all rfl) ?_))
    exact ⟨rfl, ((L.mono L2).mono L3).ofk (by omega) L4⟩
theorem sameFault_w {σ : Heap} {a b : Int} {p q : Bool} {x y : Int} : W (S.skolemref_SameFault (.agg [.int .i64 a, .bool p, .int .i64 x]) (.agg [.int .i64 b, .bool q, .int .i64 y]) σ) fun r => r.1 = (decide (a = b) && decide (p = q) && decide (x = y)) ∧ Hle σ r.2 := by
  unfold S.skolemref_SameFault
  repeat' (with_reducible (first | refine W.next ?_ | refine W.stop ?_ | refine W.nextP ?_ | refine W.stopP ?_ | refine W.ret ?_ | refine W.bind ?_ | refine W.asI ?_ | refine W.asB ?_ | refine W.asV ?_ | refine W.asS ?_ | refine W.chk rfl ?_ | refine W.aggK (by with_unfolding_all rfl) ?_ | refine W.fldp ?_ | refine W.fldfld ?_ | refine W.lenN ?_ | refine W.len (by assumption) ?_ | refine W.len (SlV.mono (by assumption) (by assumption)) ?_ | refine W.ldL (by assumption) (by with_unfolding_all rfl) ?_ | refine W.ldp (by assumption) (by with_unfolding_all rfl) ?_ | refine W.ldGL (by assumption) (Nat.le_of_ble_eq_true (by with_unfolding_all rfl)) ?_ | refine W.fldld (by assumption) (by with_unfolding_all rfl) ?_ | refine W.ld0 (by assumption) (by with_unfolding_all rfl) ?_ | refine W.ldGG (by assumption) (by with_unfolding_all rfl) ?_ | refine W.ixIc (by assumption) (by assumption) ?_ | refine W.ixIc (SlV.mono (by assumption) (by assumption)) (by assumption) ?_ | refine W.ixBc (by assumption) (by assumption) ?_ | refine W.nnil ?_ | refine W.inil ?_ | refine W.scalS (by assumption) ?_ | refine W.scalS (SlV.mono (by assumption) (by assumption)) ?_ | refine W.nck ?_ | refine W.scI ?_ | refine W.scB ?_ | refine W.scP ?_ | refine W.scM ?_ | refine W.scN ?_ | refine W.scNp ?_ | refine W.scNi ?_ | refine W.scIf ?_ | refine W.scSl ?_ | refine W.putC (by with_unfolding_all rfl) ?_))
  refine W.new fun l τ hl L h hnτ => ?_
  repeat' (with_reducible (first | refine W.next ?_ | refine W.stop ?_ | refine W.nextP ?_ | refine W.stopP ?_ | refine W.ret ?_ | refine W.bind ?_ | refine W.asI ?_ | refine W.asB ?_ | refine W.asV ?_ | refine W.asS ?_ | refine W.chk rfl ?_ | refine W.aggK (by with_unfolding_all rfl) ?_ | refine W.fldp ?_ | refine W.fldfld ?_ | refine W.lenN ?_ | refine W.len (by assumption) ?_ | refine W.len (SlV.mono (by assumption) (by assumption)) ?_ | refine W.ldL (by assumption) (by with_unfolding_all rfl) ?_ | refine W.ldp (by assumption) (by with_unfolding_all rfl) ?_ | refine W.ldGL (by assumption) (Nat.le_of_ble_eq_true (by with_unfolding_all rfl)) ?_ | refine W.fldld (by assumption) (by with_unfolding_all rfl) ?_ | refine W.ld0 (by assumption) (by with_unfolding_all rfl) ?_ | refine W.ldGG (by assumption) (by with_unfolding_all rfl) ?_ | refine W.ixIc (by assumption) (by assumption) ?_ | refine W.ixIc (SlV.mono (by assumption) (by assumption)) (by assumption) ?_ | refine W.ixBc (by assumption) (by assumption) ?_ | refine W.nnil ?_ | refine W.inil ?_ | refine W.scalS (by assumption) ?_ | refine W.scalS (SlV.mono (by assumption) (by assumption)) ?_ | refine W.nck ?_ | refine W.scI ?_ | refine W.scB ?_ | refine W.scP ?_ | refine W.scM ?_ | refine W.scN ?_ | refine W.scNp ?_ | refine W.scNi ?_ | refine W.scIf ?_ | refine W.scSl ?_ | refine W.putC (by with_unfolding_all rfl) ?_))
  refine W.new fun k τ2 hk L2 h2 hnτ2 => ?_
  replace h := h.mono L2
  have hnx := L2.next
  repeat' (first | (with_reducible (first | refine W.next ?_ | refine W.stop ?_ | refine W.nextP ?_ | refine W.stopP ?_ | refine W.ret ?_ | refine W.bind ?_ | refine W.asI ?_ | refine W.asB ?_ | refine W.asV ?_ | refine W.asS ?_ | refine W.chk rfl ?_ | refine W.aggK (by with_unfolding_all rfl) ?_ | refine W.fldp ?_ | refine W.fldfld ?_ | refine W.lenN ?_ | refine W.len (by assumption) ?_ | refine W.len (SlV.mono (by assumption) (by assumption)) ?_ | refine W.ldL (by assumption) (by with_unfolding_all rfl) ?_ | refine W.ldp (by assumption) (by with_unfolding_all rfl) ?_ | refine W.ldGL (by assumption) (Nat.le_of_ble_eq_true (by with_unfolding_all rfl)) ?_ | refine W.fldld (by assumption) (by with_unfolding_all rfl) ?_ | refine W.ld0 (by assumption) (by with_unfolding_all rfl) ?_ | refine W.ldGG (by assumption) (by with_unfolding_all rfl) ?_ | refine W.ixIc (by assumption) (by assumption) ?_ | refine W.ixIc (SlV.mono (by assumption) (by assumption)) (by assumption) ?_ | refine W.ixBc (by assumption) (by assumption) ?_ | refine W.nnil ?_ | refine W.inil ?_ | refine W.scalS (by assumption) ?_ | refine W.scalS (SlV.mono (by assumption) (by assumption)) ?_ | refine W.nck ?_ | refine W.scI ?_ | refine W.scB ?_ | refine W.scP ?_ | refine W.scM ?_ | refine W.scN ?_ | refine W.scNp ?_ | refine W.scNi ?_ | refine W.scIf ?_ | refine W.scSl ?_ | refine W.putC (by with_unfolding_all rfl) ?_)) | (with_reducible refine W.condT ?_ ?_; focus (first | (simp only [q1, q2, q3, q4, q5, q6, q7, q8, q9, q10, q11, q12, q13, q14, q15, q16, q17, q18, q19, q20, q21, q22, q23, q24, q25, q26, q27, q28, q29, q30]; done) | (simp only [q1, q2, q3, q4, q5, q6, q7, q8, q9, q10, q11, q12, q13, q14, q15, q16, q17, q18, q19, q20, q21, q22, q23, q24, q25, q26, q27, q28, q29, q30]; omega) | assumption)) | (with_reducible refine W.condF ?_ ?_; focus (first | (simp only [q1, q2, q3, q4, q5, q6, q7, q8, q9, q10, q11, q12, q13, q14, q15, q16, q17, q18, q19, q20, q21, q22, q23, q24, q25, q26, q27, q28, q29, q30]; done) | (simp only [q1, q2, q3, q4, q5, q6, q7, q8, q9, q10, q11, q12, q13, q14, q15, q16, q17, q18, q19, q20, q21, q22, q23, q24, q25, q26, q27, q28, q29, q30]; omega) | assumption)) | (with_reducible refine W.cnd (fun hc => ?_) (fun hc => ?_) <;> (try simp only [q1, q2, q3, q4, q5, q6, q7, q8, q9, q10, q11, q12, q13, q14, q15, q16, q17, q18, q19, q20, q21, q22, q23, q24, q25, q26, q27, q28, q29, q30] at hc) <;> (try (exfalso; omega))))
  all_goals (refine ⟨?_, L.mono L2⟩; simp [*])
  rfl
theorem fcells_inj {f g : Flt} (h : fcells f = fcells g) : f = g := by
  have key : ∀ e e' : Er, e.code = e'.code → e = e' := by intro e e'; cases e <;> cases e' <;> first | (intro _; rfl) | (intro h; exact absurd h (by decide))
  match f, g, h with
  | none, none, _ => rfl
  | none, some (e, none), h => exact absurd h (by cases e <;> simp [fcells, Er.code])
  | none, some (e, some p), h => exact absurd h (by cases e <;> simp [fcells, Er.code])
  | some (e, none), none, h => exact absurd h (by cases e <;> simp [fcells, Er.code])
  | some (e, some p), none, h => exact absurd h (by cases e <;> simp [fcells, Er.code])
  | some (e, none), some (e', none), h => simp [fcells] at h; rw [key e e' h]
  | some (e, none), some (e', some p), h => simp [fcells] at h
  | some (e, some p), some (e', none), h => simp [fcells] at h
  | some (e, some p), some (e', some q), h => simp [fcells] at h; rw [key e e' h.1, h.2]
theorem fcells_eq (f : Flt) : ∃ a p x, fcells f = [.int .i64 a, .bool p, .int .i64 x] := by
  match f with
  | none => exact ⟨_, _, _, rfl⟩
  | some (e, none) => exact ⟨_, _, _, rfl⟩
  | some (e, some p) => exact ⟨_, _, _, rfl⟩
theorem see_w {σ : Heap} {v : AVal} {f g : Flt} (hg : GlAll σ) (h : IsF σ v f) : W (S.skolemsee_Same v (.agg (fcells g)) σ) fun r => r.1 = decide (f = g) ∧ Hle σ r.2 := by
  unfold S.skolemsee_Same
  obtain ⟨b, q, y, eg⟩ := fcells_eq g
  rw [eg]
  repeat' (with_reducible (first | refine W.next ?_ | refine W.stop ?_ | refine W.nextP ?_ | refine W.stopP ?_ | refine W.ret ?_ | refine W.bind ?_ | refine W.asI ?_ | refine W.asB ?_ | refine W.asV ?_ | refine W.asS ?_ | refine W.chk rfl ?_ | refine W.aggK (by with_unfolding_all rfl) ?_ | refine W.fldp ?_ | refine W.fldfld ?_ | refine W.lenN ?_ | refine W.len (by assumption) ?_ | refine W.len (SlV.mono (by assumption) (by assumption)) ?_ | refine W.ldL (by assumption) (by with_unfolding_all rfl) ?_ | refine W.ldp (by assumption) (by with_unfolding_all rfl) ?_ | refine W.ldGL (by assumption) (Nat.le_of_ble_eq_true (by with_unfolding_all rfl)) ?_ | refine W.fldld (by assumption) (by with_unfolding_all rfl) ?_ | refine W.ld0 (by assumption) (by with_unfolding_all rfl) ?_ | refine W.ldGG (by assumption) (by with_unfolding_all rfl) ?_ | refine W.ixIc (by assumption) (by assumption) ?_ | refine W.ixIc (SlV.mono (by assumption) (by assumption)) (by assumption) ?_ | refine W.ixBc (by assumption) (by assumption) ?_ | refine W.nnil ?_ | refine W.inil ?_ | refine W.scalS (by assumption) ?_ | refine W.scalS (SlV.mono (by assumption) (by assumption)) ?_ | refine W.nck ?_ | refine W.scI ?_ | refine W.scB ?_ | refine W.scP ?_ | refine W.scM ?_ | refine W.scN ?_ | refine W.scNp ?_ | refine W.scNi ?_ | refine W.scIf ?_ | refine W.scSl ?_ | refine W.putC (by with_unfolding_all rfl) ?_))
  refine W.new fun l τ hl L hl hnτ => ?_
  replace h := h.mono L
  replace hg := hg.mono L
  have hnx := L.next
  refine W.call (fault_w hg h) fun r ⟨hr, L2⟩ => ?_
  obtain ⟨r, τ2⟩ := r
  simp only at hr L2; subst hr
  have hl2 := hl.mono L2
  repeat' (with_reducible (first | refine W.next ?_ | refine W.stop ?_ | refine W.nextP ?_ | refine W.stopP ?_ | refine W.ret ?_ | refine W.bind ?_ | refine W.asI ?_ | refine W.asB ?_ | refine W.asV ?_ | refine W.asS ?_ | refine W.chk rfl ?_ | refine W.aggK (by with_unfolding_all rfl) ?_ | refine W.fldp ?_ | refine W.fldfld ?_ | refine W.lenN ?_ | refine W.len (by assumption) ?_ | refine W.len (SlV.mono (by assumption) (by assumption)) ?_ | refine W.ldL (by assumption) (by with_unfolding_all rfl) ?_ | refine W.ldp (by assumption) (by with_unfolding_all rfl) ?_ | refine W.ldGL (by assumption) (Nat.le_of_ble_eq_true (by with_unfolding_all rfl)) ?_ | refine W.fldld (by assumption) (by with_unfolding_all rfl) ?_ | refine W.ld0 (by assumption) (by with_unfolding_all rfl) ?_ | refine W.ldGG (by assumption) (by with_unfolding_all rfl) ?_ | refine W.ixIc (by assumption) (by assumption) ?_ | refine W.ixIc (SlV.mono (by assumption) (by assumption)) (by assumption) ?_ | refine W.ixBc (by assumption) (by assumption) ?_ | refine W.nnil ?_ | refine W.inil ?_ | refine W.scalS (by assumption) ?_ | refine W.scalS (SlV.mono (by assumption) (by assumption)) ?_ | refine W.nck ?_ | refine W.scI ?_ | refine W.scB ?_ | refine W.scP ?_ | refine W.scM ?_ | refine W.scN ?_ | refine W.scNp ?_ | refine W.scNi ?_ | refine W.scIf ?_ | refine W.scSl ?_ | refine W.putC (by with_unfolding_all rfl) ?_))
  obtain ⟨a, p, x, ef⟩ := fcells_eq f
  simp only [ef]
  refine W.mono sameFault_w fun r ⟨hr, L3⟩ => ?_
  repeat' (with_reducible (first | refine W.next ?_ | refine W.stop ?_ | refine W.nextP ?_ | refine W.stopP ?_ | refine W.ret ?_ | refine W.bind ?_ | refine W.asI ?_ | refine W.asB ?_ | refine W.asV ?_ | refine W.asS ?_ | refine W.chk rfl ?_ | refine W.aggK (by with_unfolding_all rfl) ?_ | refine W.fldp ?_ | refine W.fldfld ?_ | refine W.lenN ?_ | refine W.len (by assumption) ?_ | refine W.len (SlV.mono (by assumption) (by assumption)) ?_ | refine W.ldL (by assumption) (by with_unfolding_all rfl) ?_ | refine W.ldp (by assumption) (by with_unfolding_all rfl) ?_ | refine W.ldGL (by assumption) (Nat.le_of_ble_eq_true (by with_unfolding_all rfl)) ?_ | refine W.fldld (by assumption) (by with_unfolding_all rfl) ?_ | refine W.ld0 (by assumption) (by with_unfolding_all rfl) ?_ | refine W.ldGG (by assumption) (by with_unfolding_all rfl) ?_ | refine W.ixIc (by assumption) (by assumption) ?_ | refine W.ixIc (SlV.mono (by assumption) (by assumption)) (by assumption) ?_ | refine W.ixBc (by assumption) (by assumption) ?_ | refine W.nnil ?_ | refine W.inil ?_ | refine W.scalS (by assumption) ?_ | refine W.scalS (SlV.mono (by assumption) (by assumption)) ?_ | refine W.nck ?_ | refine W.scI ?_ | refine W.scB ?_ | refine W.scP ?_ | refine W.scM ?_ | refine W.scN ?_ | refine W.scNp ?_ | refine W.scNi ?_ | refine W.scIf ?_ | refine W.scSl ?_ | refine W.putC (by with_unfolding_all rfl) ?_))
  refine ⟨?_, (L.mono L2).mono L3⟩
  rw [hr]
  by_cases hfg : f = g
  · subst hfg; rw [ef] at eg; simp at eg; simp [eg]
  · have : ¬ (a = b ∧ p = q ∧ x = y) := fun ⟨h1, h2, h3⟩ => hfg (fcells_inj (by rw [ef, eg, h1, h2, h3]))
    rw [decide_eq_false hfg]
    simp only [Bool.and_eq_false_iff, decide_eq_false_iff_not]
    by_cases h1 : a = b
    · by_cases h2 : p = q
      · exact .inr fun h3 => this ⟨h1, h2, h3⟩
      · exact .inl (.inr h2)
    · exact .inl (.inl h1)
theorem seeIs_w {σ : Heap} {v : AVal} {f : Flt} {e : Er} (hg : GlAll σ) (h : IsF σ v f) {n : Int} (hn : n = e.code := by rfl) : W (S.skolemsee_Is v n σ) fun r => r.1 = decide (f = some (e, none)) ∧ Hle σ r.2 := by
  unfold S.skolemsee_Is
  subst hn
  refine W.call bare_w fun r ⟨hr, L⟩ => ?_
  obtain ⟨r, τ⟩ := r
  simp only at hr L; subst hr
  replace h := h.mono L
  replace hg := hg.mono L
  have hnx := L.next
  refine W.call (see_w (g := some (e, none)) hg h) fun r ⟨hr, L2⟩ => ?_
  repeat' (with_reducible (first | refine W.next ?_ | refine W.stop ?_ | refine W.nextP ?_ | refine W.stopP ?_ | refine W.ret ?_ | refine W.bind ?_ | refine W.asI ?_ | refine W.asB ?_ | refine W.asV ?_ | refine W.asS ?_ | refine W.chk rfl ?_ | refine W.aggK (by with_unfolding_all rfl) ?_ | refine W.fldp ?_ | refine W.fldfld ?_ | refine W.lenN ?_ | refine W.len (by assumption) ?_ | refine W.len (SlV.mono (by assumption) (by assumption)) ?_ | refine W.ldL (by assumption) (by with_unfolding_all rfl) ?_ | refine W.ldp (by assumption) (by with_unfolding_all rfl) ?_ | refine W.ldGL (by assumption) (Nat.le_of_ble_eq_true (by with_unfolding_all rfl)) ?_ | refine W.fldld (by assumption) (by with_unfolding_all rfl) ?_ | refine W.ld0 (by assumption) (by with_unfolding_all rfl) ?_ | refine W.ldGG (by assumption) (by with_unfolding_all rfl) ?_ | refine W.ixIc (by assumption) (by assumption) ?_ | refine W.ixIc (SlV.mono (by assumption) (by assumption)) (by assumption) ?_ | refine W.ixBc (by assumption) (by assumption) ?_ | refine W.nnil ?_ | refine W.inil ?_ | refine W.scalS (by assumption) ?_ | refine W.scalS (SlV.mono (by assumption) (by assumption)) ?_ | refine W.nck ?_ | refine W.scI ?_ | refine W.scB ?_ | refine W.scP ?_ | refine W.scM ?_ | refine W.scN ?_ | refine W.scNp ?_ | refine W.scNi ?_ | refine W.scIf ?_ | refine W.scSl ?_ | refine W.putC (by with_unfolding_all rfl) ?_))
  exact ⟨hr, L.mono L2⟩
end Go.Proofs.YtgneblbblihaoaaDoor.A

/- Copies, joins, merged blocks; equal lists. -/
namespace Go.Proofs.YtgneblbblihaoaaDoor.A
open Go

theorem eqS_nil {x : AVal} {α : Type} {v : Vw α} {σ : Heap} {xs : List α} (h : SlV v σ xs x) : (x = .nils ∧ xs = []) ∨ ∀ {Rt : Type} (K : Bool → Option Rt), eqS x .nils K = K false := by
  rcases h with h | ⟨l, off, c, md, cs, rfl, _⟩
  · exact .inl h
  · exact .inr fun K => rfl

theorem clone_eq {σ : Heap} {xs : List Int} {x : AVal} (h : SlV .int σ xs x) (hb : xs.length ≤ 1000000) :
    ∃ y τ, S.slices_Clone_int_int x σ = some (y, τ) ∧ Hle σ τ ∧ Acc .int σ.next τ xs y := by
  unfold S.slices_Clone_int_int
  rcases eqS_nil h with ⟨rfl, rfl⟩ | h1
  · exact ⟨.nils, σ, rfl, Hle.refl _, Acc.nil _ _ _⟩
  · rw [h1]
    simp only [cond_false, newK]
    have ha : Acc Vw.int σ.next (σ.new (.cells .rw 1 [])) [] (.sl σ.next 0 0 none) := .inr ⟨σ.next, [], rfl, Nat.le_refl _, Nat.lt_succ_self _, by simp [Heap.new, Vw.int], by simp, fun i a hi => by simp at hi⟩
    have L := (Hle.refl σ).new (.cells .rw 1 [])
    obtain ⟨y, τ, e1, e2, e3, _⟩ := ha.app (bytes := 8) (w := x) (ys := xs) L (h.mono (ha.out_le L)) (by simp; omega) (by simp; omega)
    have e1 : ∀ {Rt : Type} (K : AVal → Heap → Option Rt), appS (σ.new (.cells .rw 1 [])) 1 8 (.sl σ.next 0 0 none) x K = K y τ := e1
    exact ⟨y, τ, by rw [e1], e2, by simpa using e3⟩

theorem grow_nil {σ : Heap} {n : Nat} (hb : n ≤ 1000000) : ∃ y τ, S.slices_Grow_int_int .nils (n : Int) σ = some (y, τ) ∧ Hle σ τ ∧ Acc .int σ.next τ [] y := by
  unfold S.slices_Grow_int_int
  have h1 : decide ((n : Int) < 0) = false := by simp
  have w0 : IntKind.i64.wrap (0 - 0) = 0 := by decide
  have w1 : IntKind.i64.wrap ((n : Int) - 0) = n := by rw [wrapS] <;> omega
  simp only [h1, cond_false, Option.bind_some, capV, lenV, w0, w1]
  by_cases hn : n = 0
  · subst hn
    exact ⟨.nils, σ, rfl, Hle.refl _, Acc.nil _ _ _⟩
  · have h2 : decide ((n : Int) > 0) = true := by simp; omega
    simp only [h2, cond_true]
    have e1 : ∀ {Rt : Type} (K : AVal → Option Rt), slS σ 1 .nils 0 (some 0) none K = K .nils := fun K => by simp [slS]
    have e2 : ∀ {Rt : Type} (K : AVal → Heap → Option Rt), appZ σ 1 8 [.int .i64 0] .nils (n : Int) K = K (.sl σ.next 0 n none) (σ.new (.cells .rw 1 (rep n [.int .i64 0]))) := fun K => by
      simp only [appZ, newK]; rw [if_neg (by omega), if_pos ⟨by omega, by omega, by omega⟩]; simp
    have e3 : ∀ {Rt : Type} (K : AVal → Option Rt), slS (σ.new (.cells .rw 1 (rep n [.int .i64 0]))) 1 (.sl σ.next 0 n none) 0 (some 0) none K = K (.sl σ.next 0 0 none) := fun K => by
      simp only [slS, hnew_get, if_true]
      rw [if_pos ⟨trivial, by omega, by simp, by simp, by simp, by simp⟩]; rfl
    rw [e1, e2, e3]
    exact ⟨_, _, rfl, (Hle.refl σ).new _, .inr ⟨σ.next, _, rfl, Nat.le_refl _, Nat.lt_succ_self _, by simp only [hnew_get, if_true]; rfl, by simp, fun i a hi => by simp at hi⟩⟩

def sumLen (zs : List (List Int)) : Nat := zs.flatten.length
theorem take_flat_le (zs : List (List Int)) (i : Nat) : (zs.take i).flatten.length ≤ zs.flatten.length := by
  conv => rhs; rw [← List.take_append_drop i zs]
  rw [List.flatten_append, List.length_append]; omega
theorem take_succ_flat {zs : List (List Int)} {i : Nat} {z : List Int} (h : zs[i]? = some z) : (zs.take (i + 1)).flatten = (zs.take i).flatten ++ z := by
  rw [List.take_add_one, h, List.flatten_append]; simp

theorem ld_sl {σ : Heap} {α : Type} {v : Vw α} {p : AVal} {xs : List α} {us : List AVal} (h : At σ p us) (hr : v.sl.rel σ xs us) : ∃ x, (∀ {Rt : Type} (K : AVal → Option Rt), ld σ p .V K = K x) ∧ SlV v σ xs x ∧ us = [x] := by
  obtain ⟨x, rfl, hx⟩ := hr
  exact ⟨x, fun K => by rw [h.ld]; rfl, hx, rfl⟩
theorem ld_i {σ : Heap} {p : AVal} {a : Int} {us : List AVal} (h : At σ p us) (hr : Vw.int.rel σ a us) {Rt : Type} (K : Int → Option Rt) : ld σ p (.I .i64) K = K a := by
  have hr : us = [.int .i64 a] := hr
  subst hr; rw [h.ld]; simp [asK]

theorem concat_eq {σ : Heap} {zs : List (List Int)} {x : AVal} (h : SlV (Vw.sl .int) σ zs x) (hb : zs.flatten.length ≤ 1000000) (hb2 : zs.length ≤ 1000000) :
    ∃ y τ, S.slices_Concat_int_int x σ = some (y, τ) ∧ Hle σ τ ∧ Acc .int σ.next τ zs.flatten y := by
  unfold S.slices_Concat_int_int
  rw [h.len]
  obtain ⟨s, τ1, e1, rfl, rfl⟩ := loopW_inv (f := S.slices_Concat_int_int.b0 x zs.length) (x := (0, 0)) (σ := σ) zs.length (fun i y τ => y = (((zs.take i).flatten.length : Int), (i : Int)) ∧ τ = σ) (fun y τ => y = (zs.flatten.length : Int) ∧ τ = σ)
    (fun i y τ hi hI => by
      obtain ⟨rfl, rfl⟩ := hI
      obtain ⟨z, hz⟩ : ∃ z, zs[i]? = some z := ⟨_, List.getElem?_eq_getElem hi⟩
      obtain ⟨p, us, hA, hr, e1⟩ := h.ix hz
      obtain ⟨w, e2, hw, _⟩ := ld_sl hA hr
      refine .inl ⟨_, τ, ?_, rfl, rfl⟩
      unfold S.slices_Concat_int_int.b0
      have hd : decide ((i : Int) < (zs.length : Int)) = true := by simp; omega
      have hle := take_flat_le zs (i + 1)
      rw [take_succ_flat hz, List.length_append] at hle
      have w1 : IntKind.i64.wrap ((((zs.take i).flatten.length : Nat) : Int) + (z.length : Int)) = (((zs.take (i + 1)).flatten.length : Nat) : Int) := by
        rw [take_succ_flat hz, List.length_append, wrapS] <;> omega
      have w2 : IntKind.i64.wrap ((i : Int) + 1) = ((i + 1 : Nat) : Int) := by rw [wrapS] <;> omega
      have hn : decide ((((zs.take (i + 1)).flatten.length : Nat) : Int) < 0) = false := decide_eq_false (by omega)
      simp only [hd, cond_true]
      rw [show ixA τ x 1 = ixA τ x (Vw.sl Vw.int).sz from rfl, e1 (Hle.refl _), e2, hw.len, w1]
      simp only [hn, cond_false, Option.bind_some, w2])
    (fun y τ hI => by
      obtain ⟨rfl, rfl⟩ := hI
      rw [List.take_length]
      refine ⟨_, τ, ?_, rfl, rfl⟩
      unfold S.slices_Concat_int_int.b0
      have hd : decide ((zs.length : Int) < (zs.length : Int)) = false := by simp
      simp only [hd, cond_false]) ⟨by simp, rfl⟩
  rw [e1]
  simp only [Option.bind_some]
  obtain ⟨y0, τ0, g1, g2, g3⟩ := grow_nil (σ := τ1) hb
  rw [g1]
  simp only [Option.bind_some]
  rw [h.len]
  obtain ⟨y, τ, e2, L, hA⟩ := loopW_inv (f := S.slices_Concat_int_int.b1 x zs.length) (x := (y0, 0)) (σ := τ0) zs.length (fun i y τ => y.2 = (i : Int) ∧ Hle τ1 τ ∧ Acc .int τ1.next τ (zs.take i).flatten y.1) (fun y τ => Hle τ1 τ ∧ Acc .int τ1.next τ zs.flatten y)
    (fun i y τ hi hI => by
      obtain ⟨h1, L, hA⟩ := hI
      obtain ⟨y, j⟩ := y
      simp only at h1; subst h1
      obtain ⟨z, hz⟩ : ∃ z, zs[i]? = some z := ⟨_, List.getElem?_eq_getElem hi⟩
      obtain ⟨p, us, hp, hr, e1⟩ := h.ix hz
      obtain ⟨w, e2, hs, rfl⟩ := ld_sl hp hr
      have e2 : ∀ {Rt : Type} (K : AVal → Option Rt), ld τ p .V K = K w := fun K => by rw [(hp.mono L).ld]; rfl
      have hs := hs.mono (hA.out_le L)
      have hle := take_flat_le zs (i + 1)
      rw [take_succ_flat hz, List.length_append] at hle
      obtain ⟨y', τ', a1, a2, a3, _⟩ := hA.app (bytes := 8) L hs (by omega) (by omega)
      have a1 : ∀ {Rt : Type} (K : AVal → Heap → Option Rt), appS τ 1 8 y w K = K y' τ' := a1
      refine .inl ⟨(y', ((i + 1 : Nat) : Int)), τ', ?_, rfl, a2, by rw [take_succ_flat hz]; exact a3⟩
      unfold S.slices_Concat_int_int.b1
      have hd : decide ((i : Int) < (zs.length : Int)) = true := by simp; omega
      have w2 : IntKind.i64.wrap ((i : Int) + 1) = ((i + 1 : Nat) : Int) := by rw [wrapS] <;> omega
      simp only [hd, cond_true]
      rw [show ixA τ x 1 = ixA τ x (Vw.sl Vw.int).sz from rfl, e1 L, e2, a1]
      simp only [w2])
    (fun y τ hI => by
      obtain ⟨h1, L, hA⟩ := hI
      obtain ⟨y, j⟩ := y
      simp only at h1; subst h1
      refine ⟨_, τ, ?_, L, by rw [List.take_length] at hA; exact hA⟩
      unfold S.slices_Concat_int_int.b1
      have hd : decide ((zs.length : Int) < (zs.length : Int)) = false := by simp
      simp only [hd, cond_false]) ⟨rfl, g2, by simpa using g3⟩
  rw [e2]
  exact ⟨y, τ, rfl, L, hA⟩

theorem sameInts_eq {σ : Heap} {xs ys : List Int} {x y : AVal} (hx : SlV .int σ xs x) (hy : SlV .int σ ys y) (hb : xs.length ≤ 1000000) : S.skolemref_SameInts x y σ = some (decide (xs = ys)) := by
  unfold S.skolemref_SameInts
  rw [hx.len, hy.len]
  by_cases hl : xs.length = ys.length
  · have hc : ((xs.length : Int) != (ys.length : Int)) = false := by simp [hl]
    rw [hc]
    simp only [cond_false]
    obtain ⟨r, e1, e2⟩ := loopP_inv (f := S.skolemref_SameInts.b0 x y σ) (x := (0 : Int)) xs.length (fun i z => z = (i : Int) ∧ ∀ j, j < i → xs[j]? = ys[j]?) (fun r => (r = .inl () ∧ xs = ys) ∨ (r = .inr false ∧ xs ≠ ys))
      (fun i z hi hI => by
        obtain ⟨rfl, hI⟩ := hI
        obtain ⟨a, ha⟩ : ∃ a, xs[i]? = some a := ⟨_, List.getElem?_eq_getElem hi⟩
        obtain ⟨b, hb⟩ : ∃ b, ys[i]? = some b := ⟨_, List.getElem?_eq_getElem (by omega)⟩
        obtain ⟨p, us, c2, c3, c1⟩ := hx.ix ha
        obtain ⟨q, bs, d2, d3, d1⟩ := hy.ix hb
        have hd : decide ((i : Int) < (xs.length : Int)) = true := by simp; omega
        have w2 : IntKind.i64.wrap ((i : Int) + 1) = ((i + 1 : Nat) : Int) := by rw [wrapS] <;> omega
        have key : S.skolemref_SameInts.b0 x y σ (i : Int) = cond (!(a == b)) (some (.inr (.inr false))) (some (.inl ((i + 1 : Nat) : Int))) := by
          unfold S.skolemref_SameInts.b0
          rw [hx.len, hd]
          simp only [cond_true]
          rw [show ixA σ x 1 = ixA σ x Vw.int.sz from rfl, show ixA σ y 1 = ixA σ y Vw.int.sz from rfl, c1 (Hle.refl _), ld_i c2 c3, d1 (Hle.refl _), ld_i d2 d3, w2]
        rw [key]
        by_cases hab : a = b
        · subst hab
          refine .inl ⟨_, by simp only [beq_self_eq_true, Bool.not_true, cond_false], rfl, fun j hj => ?_⟩
          rcases Nat.lt_succ_iff_lt_or_eq.1 hj with hj | rfl
          · exact hI j hj
          · rw [ha, hb]
        · refine .inr ⟨.inr false, by rw [show (a == b) = false by simpa using hab]; rfl, .inr ⟨rfl, fun e => ?_⟩⟩
          subst e; rw [ha] at hb; cases hb; exact hab rfl)
      (fun z hI => by
        obtain ⟨rfl, hI⟩ := hI
        refine ⟨.inl (), ?_, .inl ⟨rfl, ?_⟩⟩
        · unfold S.skolemref_SameInts.b0
          have hd : decide ((xs.length : Int) < (xs.length : Int)) = false := by simp
          rw [hx.len, hd]; rfl
        · apply List.ext_getElem? fun j => ?_
          by_cases hj : j < xs.length
          · exact hI j hj
          · rw [List.getElem?_eq_none (by omega), List.getElem?_eq_none (by omega)]) ⟨rfl, fun j hj => by omega⟩
    rw [e1]
    simp only [Option.bind_some]
    rcases e2 with ⟨rfl, e⟩ | ⟨rfl, e⟩
    · simp [e]
    · simp [e]
  · have hc : ((xs.length : Int) != (ys.length : Int)) = true := by simp; omega
    rw [hc]
    have : xs ≠ ys := fun e => hl (by rw [e])
    simp [this]
end Go.Proofs.YtgneblbblihaoaaDoor.A

/- Merged blocks. -/
namespace Go.Proofs.YtgneblbblihaoaaDoor.A
open Go

def mergeB (out : List (Bool × List Int)) (b : Bool × List Int) : List (Bool × List Int) :=
  if b.2 = [] then out else match out.getLast? with
    | some l => if l.1 = b.1 then out.set (out.length - 1) (l.1, l.2 ++ b.2) else out ++ [b]
    | none => out ++ [b]
def merge (bs : List (Bool × List Int)) : List (Bool × List Int) := bs.foldl mergeB []

abbrev vB : Vw (Bool × List Int) := Vw.pair .bool (Vw.sl .int)
theorem vB_rel {σ : Heap} {b : Bool × List Int} {us : List AVal} (h : vB.rel σ b us) : ∃ x, us = [.bool b.1, x] ∧ SlV .int σ b.2 x := by
  obtain ⟨u1, u2, rfl, h1, x, rfl, h2⟩ := h
  have h1 : u1 = [.bool b.1] := h1
  subst h1
  exact ⟨x, rfl, h2⟩
theorem vB_mk {σ : Heap} {b : Bool × List Int} {x : AVal} (h : SlV .int σ b.2 x) : vB.rel σ b [.bool b.1, x] := ⟨[.bool b.1], [x], rfl, rfl, x, rfl, h⟩

theorem mergeB_len (out : List (Bool × List Int)) (b) : (mergeB out b).length ≤ out.length + 1 := by
  unfold mergeB; split
  · omega
  · split
    · split
      · simp
      · simp
    · simp
def total (bs : List (Bool × List Int)) : Nat := (bs.map fun b => b.2.length).sum

/-- A step of Merge. -/
theorem merge_step {σ0 σ : Heap} {bs out0 : List (Bool × List Int)} {b : Bool × List Int} {i N : Nat} {x y : AVal} (hx : SlV vB σ0 bs x) (hi : bs[i]? = some b) (hb : bs.length ≤ 10000) (L : Hle σ0 σ) (hA : Acc vB σ0.next σ out0 y)
    (ho : out0.length ≤ 10000) (hs : ∀ a ∈ out0, a.2.length ≤ N) (hbl : b.2.length ≤ 500000) (hN : N ≤ 500000) :
    ∃ y' τ, S.prefix_Merge.b0 x (bs.length : Int) (y, (i : Int)) σ = some (.inl (y', ((i + 1 : Nat) : Int)), τ) ∧ Hle σ0 τ ∧ Acc vB σ0.next τ (mergeB out0 b) y' := by
  have hlt := (List.getElem?_eq_some_iff.1 hi).1
  obtain ⟨p, us, hp, hr, e1⟩ := hx.ix hi
  obtain ⟨v, rfl, hv⟩ := vB_rel hr
  unfold S.prefix_Merge.b0
  have hd : decide ((i : Int) < (bs.length : Int)) = true := decide_eq_true (by omega)
  have w2 : IntKind.i64.wrap ((i : Int) + 1) = ((i + 1 : Nat) : Int) := by rw [wrapS] <;> omega
  simp only [hd, cond_true, w2]
  rw [show ixA σ x 2 = ixA σ x vB.sz from rfl, e1 L, (hp.mono L).ldG (n := 2) rfl]
  simp only [newK, aggK, List.length_cons, List.length_nil, if_true]
  -- the element's copy
  have hst : ∀ {Rt : Type} (K : Heap → Option Rt), stC (σ.new (.cells .rw 2 [.bool false, .nils])) (.ptr σ.next 0) [.bool b.1, v] K = K ((σ.new (.cells .rw 2 [.bool false, .nils])).set σ.next (.cells .rw 2 [.bool b.1, v])) := fun K => by
    simp only [stC, hnew_get, if_true]; rfl
  rw [hst]
  generalize hτ : (σ.new (.cells .rw 2 [.bool false, .nils])).set σ.next (.cells .rw 2 [.bool b.1, v]) = σ1
  have hg1 : σ1.get σ.next = some (.cells .rw 2 [.bool b.1, v]) := by rw [← hτ, hset_get, if_pos rfl]
  have hn1 : σ1.next = σ.next + 1 := by rw [← hτ]; rfl
  have L1 : Hle σ σ1 := by rw [← hτ]; exact ((Hle.refl σ).new _).set (Nat.le_refl _) _
  have hl8 : At σ1 (.ptr σ.next 0) [.bool b.1, v] := At.of_get (by omega) hg1
  have hA1 := hA.mono L1
  have L01 := L.trans L1
  have hv1 : SlV .int (out σ1 y) b.2 v := hv.mono (hA1.out_le L01)
  have hv1' : SlV .int σ1 b.2 v := hv.mono L01
  rw [hA1.len, hl8.ld0 (k := 1) rfl]
  simp only [asK]
  rw [hv.len]
  by_cases hb0 : b.2 = []
  · have : ((b.2.length : Int) == 0) = true := by simp [hb0]
    simp only [this, cond_true, Option.bind_some]
    refine ⟨y, σ1, rfl, L01, ?_⟩
    unfold mergeB; rw [if_pos hb0]; exact hA1
  · have : ((b.2.length : Int) == 0) = false := by
      have : b.2.length ≠ 0 := fun e => hb0 (List.eq_nil_of_length_eq_zero e)
      simpa using this
    simp only [this, cond_false]
    -- a new block
    have newB : ∃ y' τ, (ld σ1 (.ptr σ.next 0) (.B) fun b30 => ld σ1 (.ptr σ.next 1) (.V) fun v31 =>
          (S.slices_Clone_int_int v31 σ1).bind fun r32 => ld r32.2 (.ptr σ.next 0) (.B) fun b33 => chk (((.bool b33) : AVal) = (.bool b30)) (scal r32.1 (newK r32.2 2 [(.bool b30), r32.1] fun l34 σ35 =>
          appS σ35 2 32 y (.sl l34 0 1 none) fun v36 σ37 => some (v36, σ37)))) = some (y', τ) ∧ Hle σ0 τ ∧ Acc vB σ0.next τ (out0 ++ [b]) y' := by
      rw [hl8.ld0 (k := 0) rfl]
      simp only [asK]
      rw [hl8.ld0 (k := 1) rfl]
      simp only [asK]
      obtain ⟨z, τ, c1, c2, c3⟩ := clone_eq hv1' (by omega)
      rw [c1]
      simp only [Option.bind_some]
      rw [(hl8.mono c2).ld0 (k := 0) rfl]
      simp only [asK, chk, if_true]
      rw [c3.sl.scal]
      simp only [newK]
      have L2 := (Hle.refl τ).new (.cells .rw 2 [.bool b.1, z])
      have hA2 := (hA1.mono c2).mono L2
      have L02 := (L01.trans c2).trans L2
      have hyl : ∀ l off len c, y = .sl l off len c → l < σ1.next := fun l off len c e => by
        rcases hA1 with ⟨rfl, _⟩ | ⟨l', cs, rfl, _, h3, _⟩
        · cases e
        · cases e; exact h3
      have hz : SlV .int (out (τ.new (.cells .rw 2 [.bool b.1, z])) y) b.2 z := by
        have := (c3.mono L2).sl_out Vw.int_flat hA1 (Nat.le_refl _)
        exact this
      have hsrc : SlV vB (out (τ.new (.cells .rw 2 [.bool b.1, z])) y) [b] (.sl τ.next 0 1 none) := by
        refine .inr ⟨τ.next, 0, none, .rw, [.bool b.1, z], rfl, by rw [out_next]; exact Nat.lt_succ_self _, ?_, by simp [vB, Vw.pair, Vw.bool, Vw.sl], fun j a ha => ?_⟩
        · have hne : ∀ l off len c, y = .sl l off len c → τ.next ≠ l := fun l off len c e => by have := hyl _ _ _ _ e; have := c2.next; omega
          cases hy : y with
          | sl l off len c =>
            show ((τ.new _).kill l).get _ = _
            rw [hkill_get, if_neg (hne _ _ _ _ hy), hnew_get, if_pos rfl]; rfl
          | _ => simp only [out, hnew_get, if_true]; rfl
        · cases j with
          | zero => simp at ha; subst ha; exact vB_mk hz
          | succ j => simp at ha
      obtain ⟨y', τ', a1, a2, a3, _⟩ := hA2.app (bytes := 32) L02 hsrc (by simp; omega) (by simp; omega)
      have a1 : ∀ {Rt : Type} (K : AVal → Heap → Option Rt), appS (τ.new (.cells .rw 2 [.bool b.1, z])) 2 32 y (.sl τ.next 0 1 none) K = K y' τ' := a1
      exact ⟨y', τ', by rw [a1], a2, a3⟩
    by_cases hlast : out0 = []
    · subst hlast
      have w3 : IntKind.i64.wrap ((([] : List (Bool × List Int)).length : Int) - 1) = -1 := by decide
      have hc : decide ((-1 : Int) ≥ 0) = false := by decide
      simp only [w3, hc, cond_false, Option.bind_some]
      obtain ⟨y', τ, e, L', hA'⟩ := newB
      simp only [newK] at e
      rw [e]
      refine ⟨y', τ, rfl, L', ?_⟩
      unfold mergeB; rw [if_neg hb0]; exact hA'
    · have hpos : 0 < out0.length := List.length_pos_iff.2 hlast
      have w3 : IntKind.i64.wrap ((out0.length : Int) - 1) = ((out0.length - 1 : Nat) : Int) := by rw [wrapS] <;> omega
      have hc : decide (((out0.length - 1 : Nat) : Int) ≥ 0) = true := decide_eq_true (by omega)
      obtain ⟨a, ha⟩ : ∃ a, out0[out0.length - 1]? = some a := ⟨_, List.getElem?_eq_getElem (by omega)⟩
      have hal : out0.getLast? = some a := by rw [List.getLast?_eq_getElem?]; exact ha
      obtain ⟨l, o, as1, i1, i2, i3, i4⟩ := hA1.at ha
      obtain ⟨av, rfl, hav⟩ := vB_rel i3
      have i1 : ∀ {Rt : Type} (K : AVal → Option Rt), ixA σ1 y 2 ((out0.length - 1 : Nat) : Int) K = K (.ptr l o) := i1
      simp only [w3, hc, cond_true]
      rw [i1]
      simp only [fld, Nat.add_zero]
      rw [i2.ld]
      simp only [asK]
      rw [hl8.ld0 (k := 0) rfl]
      simp only [asK, Option.bind_some]
      by_cases hk : a.1 = b.1
      · have hkb : (a.1 == b.1) = true := by simp [hk]
        simp only [hkb, cond_true]
        rw [i1]
        simp only [fld]
        have i2' : At σ1 (.ptr l (o + 1)) [av] := i2.drop 1 (by simp)
        rw [i2'.ld]
        simp only [asK]
        rw [hl8.ld0 (k := 1) rfl]
        simp only [asK]
        have hav' : SlV .int σ1 a.2 av := hav.mono (Hle.out _ _)
        rw [hav'.scal, hv.scal]
        have L2 := (Hle.refl σ1).new (.cells .rw 1 [av, v])
        have hsrc : SlV (Vw.sl .int) (σ1.new (.cells .rw 1 [av, v])) [a.2, b.2] (.sl σ1.next 0 2 none) := by
          refine .inr ⟨σ1.next, 0, none, .rw, [av, v], rfl, Nat.lt_succ_self _, by rw [hnew_get, if_pos rfl]; rfl, by simp [Vw.sl], fun j z hz => ?_⟩
          match j with
          | 0 => simp at hz; subst hz; exact ⟨av, rfl, hav'.mono L2⟩
          | 1 => simp at hz; subst hz; exact ⟨v, rfl, hv1'.mono L2⟩
          | j + 2 => simp at hz
        have hal2 := hs a (List.mem_of_getElem? ha)
        obtain ⟨z, τ, c1, c2, c3⟩ := concat_eq hsrc (by simp; omega) (by simp)
        rw [c1]
        simp only [Option.bind_some]
        have hA2 := (hA1.mono L2).mono c2
        obtain ⟨l', o', as2, j1, j2, j3, j4⟩ := hA2.at ha
        obtain ⟨av', rfl, hav2⟩ := vB_rel j3
        have j1 : ∀ {Rt : Type} (K : AVal → Option Rt), ixA τ y 2 ((out0.length - 1 : Nat) : Int) K = K (.ptr l' o') := j1
        rw [j1]
        simp only [fld]
        rw [c3.sl.scal]
        have hz : SlV .int (out τ y) (a.2 ++ b.2) z := by
          have := c3.sl_out Vw.int_flat hA1 (by rw [hnew_next]; omega)
          simpa using this
        obtain ⟨τ', k1, k2, k3, _⟩ := j4 1 [z] (a.1, a.2 ++ b.2) (by simp [vB, Vw.pair, Vw.bool, Vw.sl]) (by
          show vB.rel _ _ [.bool a.1, z]
          exact vB_mk hz)
        rw [k1]
        refine ⟨y, τ', rfl, k3 σ0 (Nat.le_refl _) ((L01.trans L2).trans c2), ?_⟩
        unfold mergeB
        rw [if_neg hb0, hal]
        simp only [if_pos hk]
        exact k2
      · have hkb : (a.1 == b.1) = false := by simpa using hk
        simp only [hkb, cond_false]
        obtain ⟨y', τ, e, L', hA'⟩ := newB
        simp only [newK] at e
        rw [e]
        refine ⟨y', τ, rfl, L', ?_⟩
        unfold mergeB; rw [if_neg hb0, hal]; simp only [if_neg hk]; exact hA'
end Go.Proofs.YtgneblbblihaoaaDoor.A

/- Merge; equal blocks. -/
namespace Go.Proofs.YtgneblbblihaoaaDoor.A
open Go

theorem total_append (a b : List (Bool × List Int)) : total (a ++ b) = total a + total b := by simp [total]
theorem total_set_last {out : List (Bool × List Int)} {a : Bool × List Int} (h : out.getLast? = some a) (c : Bool × List Int) : total (out.set (out.length - 1) c) + a.2.length = total out + c.2.length := by
  obtain ⟨l, rfl⟩ := List.getLast?_eq_some_iff.1 h
  have : (l ++ [a]).set ((l ++ [a]).length - 1) c = l ++ [c] := by
    rw [List.length_append, List.length_singleton, Nat.add_sub_cancel, List.set_append_right _ _ (Nat.le_refl _)]; simp
  rw [this, total_append, total_append]; simp [total]; omega
theorem mergeB_total (out : List (Bool × List Int)) (b) : total (mergeB out b) = total out + b.2.length := by
  unfold mergeB; split
  · rename_i h; simp [h]
  · split
    · rename_i a h
      split
      · have := total_set_last h (a.1, a.2 ++ b.2); simp at this; omega
      · rw [total_append]; simp [total]
    · rw [total_append]; simp [total]
theorem total_mem {out : List (Bool × List Int)} {a : Bool × List Int} (h : a ∈ out) : a.2.length ≤ total out := by
  obtain ⟨s, t, rfl⟩ := List.append_of_mem h
  rw [total_append]; simp [total]; omega
theorem total_take (bs : List (Bool × List Int)) (i : Nat) : total (bs.take i) ≤ total bs := by
  conv => rhs; rw [← List.take_append_drop i bs]
  rw [total_append]; omega

theorem foldl_merge : ∀ (bs out : List (Bool × List Int)), total (bs.foldl mergeB out) = total out + total bs ∧ (bs.foldl mergeB out).length ≤ out.length + bs.length
  | [], out => by simp [total]
  | b :: bs, out => by
    have h1 := foldl_merge bs (mergeB out b)
    have h2 := mergeB_total out b
    have h3 := mergeB_len out b
    refine ⟨?_, ?_⟩
    · rw [List.foldl_cons, h1.1, h2]; simp [total]; omega
    · rw [List.foldl_cons, List.length_cons]; omega

theorem merge_eq {σ : Heap} {bs : List (Bool × List Int)} {x : AVal} (hx : SlV vB σ bs x) (hb : bs.length ≤ 10000) (ht : total bs ≤ 500000) :
    ∃ y τ, S.prefix_Merge x σ = some (y, τ) ∧ Hle σ τ ∧ Acc vB σ.next τ (merge bs) y := by
  unfold S.prefix_Merge
  rw [hx.len]
  obtain ⟨y, τ, e, L, hA⟩ := loopW_inv (f := S.prefix_Merge.b0 x bs.length) (x := (.nils, 0)) (σ := σ) bs.length (fun i y τ => y.2 = (i : Int) ∧ Hle σ τ ∧ Acc vB σ.next τ ((bs.take i).foldl mergeB []) y.1) (fun y τ => Hle σ τ ∧ Acc vB σ.next τ (merge bs) y)
    (fun i y τ hi hI => by
      obtain ⟨h1, L, hA⟩ := hI
      obtain ⟨y, j⟩ := y
      simp only at h1; subst h1
      obtain ⟨b, hb'⟩ : ∃ b, bs[i]? = some b := ⟨_, List.getElem?_eq_getElem hi⟩
      obtain ⟨f1, f2⟩ := foldl_merge (bs.take i) []
      have f3 := total_take bs i
      have f0 : total ([] : List (Bool × List Int)) = 0 := rfl
      have f4 : (bs.take i).length ≤ bs.length := List.length_take_le' ..
      have f5 := total_mem (List.mem_of_getElem? hb')
      obtain ⟨y', τ', e1, e2, e3⟩ := merge_step (N := 500000) hx hb' hb L hA (by simp at f2 ⊢; omega) (fun a ha => by have := total_mem ha; omega) (by omega) (Nat.le_refl _)
      refine .inl ⟨_, τ', e1, rfl, e2, ?_⟩
      rw [List.take_add_one, hb', List.foldl_append]; exact e3)
    (fun y τ hI => by
      obtain ⟨h1, L, hA⟩ := hI
      obtain ⟨y, j⟩ := y
      simp only at h1; subst h1
      refine ⟨y, τ, ?_, L, by rw [List.take_length] at hA; exact hA⟩
      unfold S.prefix_Merge.b0
      have hd : decide ((bs.length : Int) < (bs.length : Int)) = false := by simp
      simp only [hd, cond_false]) ⟨rfl, Hle.refl _, by simpa using Acc.nil vB σ.next σ⟩
  rw [e]
  exact ⟨y, τ, rfl, L, hA⟩

theorem sameBlock_eq {σ : Heap} {a b : Bool × List Int} {u w : List AVal} (ha : vB.rel σ a u) (hb : vB.rel σ b w) (hl : a.2.length ≤ 1000000) : ∃ τ, S.skolemref_SameBlock (.agg u) (.agg w) σ = some (decide (a = b), τ) ∧ Hle σ τ := by
  obtain ⟨x, rfl, hx⟩ := vB_rel ha
  obtain ⟨y, rfl, hy⟩ := vB_rel hb
  unfold S.skolemref_SameBlock
  simp only [aggK, newK, List.length_cons, List.length_nil, if_true]
  generalize h1 : σ.new (.cells .rw 2 [.bool a.1, x]) = σ1
  generalize h2 : σ1.new (.cells .rw 2 [.bool b.1, y]) = σ2
  have L1 : Hle σ σ1 := by rw [← h1]; exact (Hle.refl σ).new _
  have L2 : Hle σ1 σ2 := by rw [← h2]; exact (Hle.refl σ1).new _
  have A1 : At σ2 (.ptr σ.next 0) [.bool a.1, x] := by
    have := At.new σ 2 [.bool a.1, x]; rw [h1] at this; exact this.mono L2
  have A2 : At σ2 (.ptr σ1.next 0) [.bool b.1, y] := by
    have := At.new σ1 2 [.bool b.1, y]; rwa [h2] at this
  have L := L1.trans L2
  rw [A1.ld0 (k := 0) rfl]; simp only [asK]
  rw [A2.ld0 (k := 0) rfl]; simp only [asK]
  refine ⟨σ2, ?_, L⟩
  by_cases hk : a.1 = b.1
  · have : (a.1 == b.1) = true := by simp [hk]
    simp only [this, cond_true]
    rw [A1.ld0 (k := 1) rfl]; simp only [asK]
    rw [A2.ld0 (k := 1) rfl]; simp only [asK]
    rw [sameInts_eq (hx.mono L) (hy.mono L) hl]
    simp only [Option.bind_some]
    congr 2
    obtain ⟨a1, a2⟩ := a; obtain ⟨b1, b2⟩ := b
    simp at hk; subst hk
    simp
  · have : (a.1 == b.1) = false := by simpa using hk
    simp only [this, cond_false, Option.bind_some]
    have : a ≠ b := fun e => hk (by rw [e])
    simp [this]

theorem sameBlocks_eq {σ : Heap} {xs ys : List (Bool × List Int)} {x y : AVal} (hx : SlV vB σ xs x) (hy : SlV vB σ ys y) (hb : xs.length ≤ 1000000) (hs : ∀ a ∈ xs, a.2.length ≤ 1000000) :
    ∃ τ, S.skolemref_SameBlocks x y σ = some (decide (xs = ys), τ) ∧ Hle σ τ := by
  unfold S.skolemref_SameBlocks
  rw [hx.len, hy.len]
  by_cases hl : xs.length = ys.length
  · have hc : ((xs.length : Int) != (ys.length : Int)) = false := by simp [hl]
    rw [hc]
    simp only [cond_false]
    obtain ⟨r, τ, e1, L, e2⟩ := loopW_inv (f := S.skolemref_SameBlocks.b0 x y) (x := (0 : Int)) (σ := σ) xs.length (fun i z τ => z = (i : Int) ∧ Hle σ τ ∧ ∀ j, j < i → xs[j]? = ys[j]?) (fun r τ => Hle σ τ ∧ ((r = .inl () ∧ xs = ys) ∨ (r = .inr false ∧ xs ≠ ys)))
      (fun i z τ hi hI => by
        obtain ⟨rfl, L, hI⟩ := hI
        obtain ⟨a, ha⟩ : ∃ a, xs[i]? = some a := ⟨_, List.getElem?_eq_getElem hi⟩
        obtain ⟨b, hb⟩ : ∃ b, ys[i]? = some b := ⟨_, List.getElem?_eq_getElem (by omega)⟩
        obtain ⟨p, us, c2, c3, c1⟩ := hx.ix ha
        obtain ⟨q, ws, d2, d3, d1⟩ := hy.ix hb
        have hd : decide ((i : Int) < (xs.length : Int)) = true := by simp; omega
        have w2 : IntKind.i64.wrap ((i : Int) + 1) = ((i + 1 : Nat) : Int) := by rw [wrapS] <;> omega
        obtain ⟨τ', s1, s2⟩ := sameBlock_eq (vB.mono L c3) (vB.mono L d3) (hs a (List.mem_of_getElem? ha))
        have key : S.skolemref_SameBlocks.b0 x y (i : Int) τ = cond (!(decide (a = b))) (some (.inr (.inr false), τ')) (some (.inl ((i + 1 : Nat) : Int), τ')) := by
          unfold S.skolemref_SameBlocks.b0
          rw [hx.len, hd]
          simp only [cond_true]
          rw [show ixA τ x 2 = ixA τ x vB.sz from rfl, show ixA τ y 2 = ixA τ y vB.sz from rfl, c1 L, (c2.mono L).ldG (n := 2) (vB.len c3).symm, d1 L, (d2.mono L).ldG (n := 2) (vB.len d3).symm, s1, w2]
          rfl
        rw [key]
        by_cases hab : a = b
        · subst hab
          refine .inl ⟨_, τ', by simp, rfl, L.trans s2, fun j hj => ?_⟩
          rcases Nat.lt_succ_iff_lt_or_eq.1 hj with hj | rfl
          · exact hI j hj
          · rw [ha, hb]
        · refine .inr ⟨.inr false, τ', by simp [hab], L.trans s2, .inr ⟨rfl, fun e => ?_⟩⟩
          subst e; rw [ha] at hb; cases hb; exact hab rfl)
      (fun z τ hI => by
        obtain ⟨rfl, L, hI⟩ := hI
        refine ⟨.inl (), τ, ?_, L, .inl ⟨rfl, ?_⟩⟩
        · unfold S.skolemref_SameBlocks.b0
          have hd : decide ((xs.length : Int) < (xs.length : Int)) = false := by simp
          rw [hx.len, hd]; rfl
        · apply List.ext_getElem? fun j => ?_
          by_cases hj : j < xs.length
          · exact hI j hj
          · rw [List.getElem?_eq_none (by omega), List.getElem?_eq_none (by omega)]) ⟨rfl, Hle.refl _, fun j hj => by omega⟩
    rw [e1]
    simp only [Option.bind_some]
    rcases e2 with ⟨rfl, e⟩ | ⟨rfl, e⟩
    · exact ⟨τ, by simp [e], L⟩
    · exact ⟨τ, by simp [e], L⟩
  · have hc : ((xs.length : Int) != (ys.length : Int)) = true := by simp; omega
    rw [hc]
    have : xs ≠ ys := fun e => hl (by rw [e])
    exact ⟨σ, by simp [this], Hle.refl _⟩
end Go.Proofs.YtgneblbblihaoaaDoor.A

/- The chapter's example: the game of the formula of nothing. -/
namespace Go.Proofs.YtgneblbblihaoaaDoor.A
open Go

theorem lenV_nils {Rt : Type} (K : Int → Option Rt) : lenV .nils K = K 0 := rfl
theorem stop0 {X Y : Type} {f : X → Heap → Option ((X ⊕ Y) × Heap)} {x : X} {σ : Heap} {y : Y} (h : f x σ = some (.inr y, σ)) : loopW f x σ = some (y, σ) := loopW_stop h

theorem litsCheck_nil (σ : Heap) : S.lits_Check (.agg [.int .i64 0, .nils]) σ = some (.nili, σ.new (.cells .rw 2 [.int .i64 0, .nils])) := by
  unfold S.lits_Check
  simp only [aggK, newK, List.length_cons, List.length_nil, if_true]
  have A1 := At.new σ 2 [.int .i64 0, .nils]
  generalize h1 : σ.new (.cells .rw 2 [.int .i64 0, .nils]) = σ1 at A1 ⊢
  rw [A1.ld0 (k := 1) rfl]
  simp only [asK, lenV]
  rw [loopP_stop (y := 0) (by rfl)]
  simp only [Option.bind_some]
  rw [A1.ld0 (k := 0) rfl]
  simp only [asK, if_true, cond_false, decide_false, Option.bind_some, show decide ((0 : Int) < 0) = false from rfl]
  rw [A1.ld0 (k := 0) rfl]
  simp only [asK, if_true, cond_false, show decide ((0 : Int) > 4000) = false from rfl]
  rw [A1.ld0 (k := 1) rfl]
  simp only [asK, lenV, cond_false, Option.bind_some, show decide ((0 : Int) > 20000) = false from rfl, show decide ((0 : Int) > 80000) = false from rfl]
  rw [A1.ld0 (k := 1) rfl]
  simp only [asK, lenV]
  rw [stop0 (y := .inl ()) (by rfl)]
  rfl

theorem qcheck_nil (σ : Heap) : ∃ τ, S.qdimacs_Check (.agg [.nils, .int .i64 0, .nils]) σ = some (.nili, τ) ∧ Hle σ τ := by
  unfold S.qdimacs_Check
  simp only [aggK, newK, List.length_cons, List.length_nil, if_true]
  have A1 := At.new σ 3 [.nils, .int .i64 0, .nils]
  have L1 := (Hle.refl σ).new (.cells .rw 3 [.nils, .int .i64 0, .nils])
  generalize σ.new (.cells .rw 3 [.nils, .int .i64 0, .nils]) = σ1 at A1 L1 ⊢
  have A2 := A1.drop 1 (by simp)
  rw [show (1 : Nat) = 0 + 1 from rfl, A2.ldG (n := 2) rfl]
  simp only [List.drop_succ_cons, List.drop_zero]
  rw [litsCheck_nil]
  simp only [Option.bind_some, eqI, cond_true, Bool.not_true, cond_false, newM]
  generalize hσ2 : (σ1.new (.cells .rw 2 [.int .i64 0, .nils])) = σ2
  have L2 : Hle σ1 σ2 := by rw [← hσ2]; exact (Hle.refl σ1).new _
  have L3 := (Hle.refl σ2).new (.map [])
  rw [((A1.mono L2).mono L3).ld0 (k := 0) rfl]
  simp only [asK, lenV]
  rw [stop0 (y := .inl ()) (by rfl)]
  exact ⟨_, rfl, (L1.trans L2).trans L3⟩

theorem free_nil (σ : Heap) : ∃ τ, S.prefix_Free (.agg [.nils, .int .i64 0, .nils]) σ = some (.nils, τ) ∧ Hle σ τ := by
  unfold S.prefix_Free
  simp only [aggK, newK, List.length_cons, List.length_nil, if_true, newM]
  have A1 := At.new σ 3 [.nils, .int .i64 0, .nils]
  have L1 := (Hle.refl σ).new (.cells .rw 3 [.nils, .int .i64 0, .nils])
  generalize σ.new (.cells .rw 3 [.nils, .int .i64 0, .nils]) = σ1 at A1 L1 ⊢
  have L2 := (Hle.refl σ1).new (.map [])
  have hg : (σ1.new (.map [])).get σ1.next = some (.map []) := by rw [hnew_get, if_pos rfl]
  have hn : σ1.next < (σ1.new (.map [])).next := Nat.lt_succ_self _
  generalize hσ2 : σ1.new (.map []) = σ2 at L2 hg hn ⊢
  rw [(A1.mono L2).ld0 (k := 2) rfl]
  simp only [asK, lenV]
  rw [stop0 (y := ()) (by rfl)]
  simp only [Option.bind_some]
  rw [(A1.mono L2).ld0 (k := 0) rfl]
  simp only [asK, lenV]
  rw [stop0 (y := ()) (by rfl)]
  simp only [Option.bind_some, S.maps_Keys_map_int_bool_int_bool, S.slices_Sorted_int, keysS, hg, sortedKeysS, if_true, hnew_get, Nat.ne_of_lt hn, if_false, List.map_nil, intsL, List.length_nil, List.all_nil, Nat.zero_le, and_self, if_pos]
  exact ⟨_, rfl, (L1.trans L2).trans ((Hle.refl σ2).new _)⟩

theorem first6_eq (σ : Heap) : ∃ τ, S.skolemlaw6_first σ = some (true, τ) ∧ Hle σ τ := by
  have norm : ∃ y τ, S.prefix_Norm (.agg [.nils, .int .i64 0, .nils]) σ = some ((.agg [.bool true, .nils, .nils, y], .nili), τ) ∧ Hle σ τ := by
    unfold S.prefix_Norm
    simp only [aggK, newK, List.length_cons, List.length_nil, if_true]
    have A1 := At.new σ 3 [.nils, .int .i64 0, .nils]
    have L1 := (Hle.refl σ).new (.cells .rw 3 [.nils, .int .i64 0, .nils])
    generalize σ.new (.cells .rw 3 [.nils, .int .i64 0, .nils]) = σ1 at A1 L1 ⊢
    have A2 := At.new σ1 4 [.bool false, .nils, .nils, .nils]
    have L2 := (Hle.refl σ1).new (.cells .rw 4 [.bool false, .nils, .nils, .nils])
    have hg2 : (σ1.new (.cells .rw 4 [.bool false, .nils, .nils, .nils])).get σ1.next = some (.cells .rw 4 [.bool false, .nils, .nils, .nils]) := by rw [hnew_get, if_pos rfl]
    have hl2 : σ.next < σ1.next := by
      obtain ⟨l, o, md, sz, cs, e, h, _⟩ := A1; cases e; exact h
    generalize hσ2 : σ1.new (.cells .rw 4 [.bool false, .nils, .nils, .nils]) = σ2 at A2 L2 hg2 ⊢
    rw [(A1.mono L2).ldG (n := 3) rfl]
    obtain ⟨σ3, e3, L3⟩ := qcheck_nil σ2
    rw [e3]
    simp only [Option.bind_some, eqI, cond_true, Bool.not_true, cond_false]
    rw [((A1.mono L2).mono L3).ldG (n := 3) rfl]
    obtain ⟨σ4, e4, L4⟩ := free_nil σ3
    rw [e4]
    simp only [Option.bind_some, scal]
    rw [(((A1.mono L2).mono L3).mono L4).ld0 (k := 0) rfl]
    simp only [asK]
    rw [((A1.mono L2).mono L3).ld0 (k := 0) rfl]
    simp only [asK, chk, if_true]
    have L5 := (Hle.refl σ4).new (.cells .rw 2 [.bool true, .nils])
    have hsl : SlV vB (σ4.new (.cells .rw 2 [.bool true, .nils])) [(true, [])] (.sl σ4.next 0 1 none) :=
      .inr ⟨σ4.next, 0, none, .rw, [.bool true, .nils], rfl, Nat.lt_succ_self _, by rw [hnew_get, if_pos rfl]; rfl, by simp [vB, Vw.pair, Vw.bool, Vw.sl], fun j a ha => by
        cases j with
        | zero => simp at ha; subst ha; exact vB_mk (SlV.nil _ _)
        | succ j => simp at ha⟩
    generalize hσ5 : σ4.new (.cells .rw 2 [.bool true, .nils]) = σ5 at L5 hsl ⊢
    have happ : ∀ {Rt : Type} (K : AVal → Heap → Option Rt), appS σ5 2 32 (.sl σ4.next 0 1 none) .nils K = K (.sl σ4.next 0 1 none) σ5 := fun K => by
      have hg : σ5.get σ4.next = some (.cells .rw 2 [.bool true, .nils]) := by rw [← hσ5, hnew_get, if_pos rfl]
      simp only [appS, srcK, appC, hg, if_true]
      rw [if_pos ⟨trivial, by omega, by simp⟩]
    rw [happ]
    obtain ⟨m, σ6, e6, L6, hm⟩ := merge_eq hsl (by simp) (by simp [total])
    rw [e6]
    simp only [Option.bind_some]
    have L16 := (((L2.trans L3).trans L4).trans L5).trans L6
    rw [(A1.mono L16).ld0 (k := 2) rfl]
    simp only [asK, S.lits_Clone, lenV_nils, mkS]
    rw [if_pos (by decide)]
    simp only [newK, Int.toNat_zero, rep, lenV_nils]
    rw [stop0 (y := .sl σ6.next 0 0 none) (by rfl)]
    simp only [Option.bind_some, scal]
    have L7 := (Hle.refl σ6).new (.cells .rw 1 [])
    generalize hσ7 : σ6.new (.cells .rw 1 []) = σ7 at L7 ⊢
    have hst : ∀ {Rt : Type} (K : Heap → Option Rt), stC (σ7.new (.cells .rw 4 [.bool false, .nils, .nils, .nils])) (.ptr σ7.next 0) [.bool true, .nils, .nils, .sl σ6.next 0 0 none] K = K ((σ7.new (.cells .rw 4 [.bool false, .nils, .nils, .nils])).set σ7.next (.cells .rw 4 [.bool true, .nils, .nils, .sl σ6.next 0 0 none])) := fun K => by
      simp only [stC, hnew_get, if_true]; rfl
    rw [hst]
    generalize hσ8 : (σ7.new (.cells .rw 4 [.bool false, .nils, .nils, .nils])).set σ7.next (.cells .rw 4 [.bool true, .nils, .nils, .sl σ6.next 0 0 none]) = σ8
    have L8 : Hle σ7 σ8 := by rw [← hσ8]; exact ((Hle.refl σ7).new _).set (Nat.le_refl _) _
    have hg8 : σ8.get σ7.next = some (.cells .rw 4 [.bool true, .nils, .nils, .sl σ6.next 0 0 none]) := by rw [← hσ8, hset_get, if_pos rfl]
    have hn8 : σ7.next < σ8.next := by rw [← hσ8, hset_next, hnew_next]; omega
    have A8 := At.of_get hn8 hg8
    have hm0 : merge [(true, ([] : List Int))] = [] := rfl
    rw [hm0] at hm
    rw [hm.len]
    simp only [List.length_nil, show (((0 : Nat) : Int) == 0) = true from rfl, cond_true]
    rw [A8.ldG (n := 4) rfl]
    simp only [if_true, List.length_cons, List.length_nil]
    have hg9 : σ8.get σ1.next = some (.cells .rw 4 [.bool false, .nils, .nils, .nils]) := by
      have := (((((L3.trans L4).trans L5).trans L6).trans L7).trans L8).get σ1.next _ (by rw [← hσ2, hnew_next]; omega) hg2
      exact this
    have hst2 : ∀ {Rt : Type} (K : Heap → Option Rt), stC σ8 (.ptr σ1.next 0) [.bool true, .nils, .nils, .sl σ6.next 0 0 none] K = K (σ8.set σ1.next (.cells .rw 4 [.bool true, .nils, .nils, .sl σ6.next 0 0 none])) := fun K => by
      simp only [stC, hg9]; rfl
    rw [hst2]
    have L19 := ((((L3.trans L4).trans L5).trans L6).trans L7).trans L8
    have hn9 : σ1.next < σ8.next := Nat.lt_of_lt_of_le (by rw [← hσ2, hnew_next]; omega) L19.next
    have A9 : At (σ8.set σ1.next (.cells .rw 4 [.bool true, .nils, .nils, .sl σ6.next 0 0 none])) (.ptr σ1.next 0) [.bool true, .nils, .nils, .sl σ6.next 0 0 none] :=
      At.of_get (md := .rw) (sz := 4) hn9 (by rw [hset_get, if_pos rfl])
    rw [A9.ldG (n := 4) rfl]
    exact ⟨_, _, rfl, (((L1.trans L2).trans L19).set (by have := L1.next; omega) _)⟩
  obtain ⟨y, τ, e, L⟩ := norm
  unfold S.skolemlaw6_first
  rw [e]
  simp only [Option.bind_some, newK, aggK, List.length_cons, List.length_nil, if_true]
  have hst : ∀ {Rt : Type} (K : Heap → Option Rt), stC (τ.new (.cells .rw 4 [.bool false, .nils, .nils, .nils])) (.ptr τ.next 0) [.bool true, .nils, .nils, y] K = K ((τ.new (.cells .rw 4 [.bool false, .nils, .nils, .nils])).set τ.next (.cells .rw 4 [.bool true, .nils, .nils, y])) := fun K => by
    simp only [stC, hnew_get, if_true]; rfl
  rw [hst]
  generalize hσ : (τ.new (.cells .rw 4 [.bool false, .nils, .nils, .nils])).set τ.next (.cells .rw 4 [.bool true, .nils, .nils, y]) = σ'
  have L' : Hle τ σ' := by rw [← hσ]; exact ((Hle.refl τ).new _).set (Nat.le_refl _) _
  have A' : At σ' (.ptr τ.next 0) [.bool true, .nils, .nils, y] := At.of_get (md := .rw) (sz := 4) (by rw [← hσ, hset_next, hnew_next]; omega) (by rw [← hσ, hset_get, if_pos rfl])
  simp only [eqI, cond_true]
  rw [A'.ld0 (k := 0) rfl]
  exact ⟨σ', rfl, L.trans L'⟩
end Go.Proofs.YtgneblbblihaoaaDoor.A

/- Maps by numbers, as0 lists of pairs. -/
namespace Go.Proofs.YtgneblbblihaoaaDoor.A
open Go

def ents (ps : List (Int × AVal)) : List (AVal × AVal) := ps.map fun p => (.int .i64 p.1, p.2)
def look : List (Int × AVal) → Int → Option AVal
  | [], _ => none
  | p :: ps, n => if n = p.1 then some p.2 else look ps n
def keysOf (ps : List (Int × AVal)) : List Int := ps.map (·.1)
/-- A map. -/
structure MapV (σ : Heap) (l : Nat) (ps : List (Int × AVal)) : Prop where
  lt : l < σ.next
  get : σ.get l = some (.map (ents ps))
  nodup : (keysOf ps).Nodup

theorem MapV.mono {σ τ : Heap} {l : Nat} {ps : List (Int × AVal)} (h : MapV σ l ps) (L : Hle σ τ) : MapV τ l ps := ⟨Nat.lt_of_lt_of_le h.lt L.next, L.get _ _ h.lt h.get, h.nodup⟩
theorem MapV.new (σ : Heap) : MapV (σ.new (.map [])) σ.next [] := ⟨Nat.lt_succ_self _, by rw [hnew_get, if_pos rfl]; rfl, by simp [keysOf]⟩

theorem look_none {ps : List (Int × AVal)} {n : Int} : look ps n = none ↔ n ∉ keysOf ps := by
  induction ps with
  | nil => simp [look, keysOf]
  | cons p ps ih =>
    simp only [look, keysOf, List.map_cons, List.mem_cons]
    by_cases h : n = p.1
    · simp [h]
    · simp only [h, if_false, false_or]; exact ih
theorem mfind_ents (n : Int) : ∀ (ps : List (Int × AVal)) (i : Nat), (look ps n = none ∧ mfind .i64 n (ents ps) i = some none) ∨ ∃ j x, look ps n = some x ∧ mfind .i64 n (ents ps) i = some (some (i + j)) ∧ ps[j]? = some (n, x)
  | [], i => .inl ⟨rfl, rfl⟩
  | p :: ps, i => by
    by_cases h : n = p.1
    · exact .inr ⟨0, p.2, by simp [look, h], by simp [ents, mfind, h], by rw [h]; rfl⟩
    · rcases mfind_ents n ps (i + 1) with ⟨h1, h2⟩ | ⟨j, x, h1, h2, h3⟩
      · exact .inl ⟨by simp [look, h, h1], by simp only [ents, List.map_cons, mfind, if_true, if_neg h]; exact h2⟩
      · exact .inr ⟨j + 1, x, by simp [look, h, h1], by simp only [ents, List.map_cons, mfind, if_true, if_neg h]; rw [show i + (j + 1) = i + 1 + j by omega]; exact h2, by simpa using h3⟩

section
variable {σ : Heap} {l : Nat} {ps : List (Int × AVal)} {n : Int} {x : AVal}
theorem MapV.mget (h : MapV σ l ps) {Rt : Type} (K : Option AVal → Option Rt) : mgetK σ (.map l) .i64 n K = K (look ps n) := by
  simp only [mgetK, h.get]
  rcases mfind_ents n ps 0 with ⟨h1, h2⟩ | ⟨j, x, h1, h2, h3⟩
  · rw [h2, h1]
  · rw [h2, h1]
    have : (ents ps)[0 + j]? = some (.int .i64 n, x) := by rw [Nat.zero_add]; simp [ents, h3]
    simp only [this]
theorem MapV.mgetZ (h : MapV σ l ps) (z : AVal) {Rt : Type} (K : AVal → Bool → Option Rt) : mgetZ σ (.map l) .i64 n z K = K ((look ps n).getD z) (look ps n).isSome := by
  unfold A.mgetZ
  rw [h.mget]
  cases look ps n <;> rfl
theorem look_set : ∀ (ps : List (Int × AVal)) (j : Nat) (n : Int) (x y : AVal), ps[j]? = some (n, y) → (keysOf ps).Nodup → (keysOf (ps.set j (n, x))) = keysOf ps ∧ ∀ k, look (ps.set j (n, x)) k = if k = n then some x else look ps k
  | [], j, n, x, y, h, _ => by simp at h
  | p :: ps, 0, n, x, y, h, hnd => by
    simp at h; subst h
    refine ⟨rfl, fun k => ?_⟩
    simp only [List.set_cons_zero, look]
    split <;> rfl
  | p :: ps, j + 1, n, x, y, h, hnd => by
    simp only [keysOf, List.map_cons, List.nodup_cons] at hnd
    have h' : ps[j]? = some (n, y) := by simpa using h
    obtain ⟨h1, h2⟩ := look_set ps j n x y h' hnd.2
    refine ⟨by simp only [keysOf, List.set_cons_succ, List.map_cons] at h1 ⊢; rw [h1], fun k => ?_⟩
    simp only [List.set_cons_succ, look, h2]
    by_cases hk : k = p.1
    · have : k ≠ n := fun e => hnd.1 (by rw [← hk, e]; exact List.mem_map.2 ⟨(n, y), List.mem_of_getElem? h', rfl⟩)
      simp [hk]; rw [hk] at this; simp [this]
    · simp [hk]
theorem look_append : ∀ (ps : List (Int × AVal)) (n : Int) (x : AVal), look ps n = none → ∀ k, look (ps ++ [(n, x)]) k = if k = n then some x else look ps k
  | [], n, x, _, k => by simp [look]
  | p :: ps, n, x, h, k => by
    simp only [look] at h
    split at h
    · cases h
    · rename_i hn
      simp only [List.cons_append, look, look_append ps n x h]
      by_cases hk : k = p.1
      · have : k ≠ n := fun e => hn (by rw [← e, hk])
        simp [hk]; rw [hk] at this; simp [this]
      · simp [hk]
theorem look_erase : ∀ (ps : List (Int × AVal)) (j : Nat) (n : Int) (y : AVal), ps[j]? = some (n, y) → (keysOf ps).Nodup → (keysOf (ps.eraseIdx j)).Nodup ∧ ∀ k, look (ps.eraseIdx j) k = if k = n then none else look ps k
  | [], j, n, y, h, _ => by simp at h
  | p :: ps, 0, n, y, h, hnd => by
    simp at h; subst h
    simp only [keysOf, List.map_cons, List.nodup_cons] at hnd
    refine ⟨hnd.2, fun k => ?_⟩
    simp only [List.eraseIdx_cons_zero, look]
    by_cases hk : k = n
    · subst hk; simp; exact look_none.2 hnd.1
    · simp [hk]
  | p :: ps, j + 1, n, y, h, hnd => by
    simp only [keysOf, List.map_cons, List.nodup_cons] at hnd
    have h' : ps[j]? = some (n, y) := by simpa using h
    obtain ⟨h1, h2⟩ := look_erase ps j n y h' hnd.2
    refine ⟨?_, fun k => ?_⟩
    · simp only [List.eraseIdx_cons_succ, keysOf, List.map_cons, List.nodup_cons]
      refine ⟨fun hm => hnd.1 ?_, h1⟩
      obtain ⟨q, hq, e⟩ := List.mem_map.1 hm
      exact List.mem_map.2 ⟨q, (List.eraseIdx_sublist ps j).subset hq, e⟩
    · simp only [List.eraseIdx_cons_succ, look, h2]
      by_cases hk : k = p.1
      · have : k ≠ n := fun e => hnd.1 (by rw [← hk, e]; exact List.mem_map.2 ⟨(n, y), List.mem_of_getElem? h', rfl⟩)
        simp [hk]; rw [hk] at this; simp [this]
      · simp [hk]
theorem ents_set (ps : List (Int × AVal)) (j : Nat) (n : Int) (x : AVal) : (ents ps).set j (.int .i64 n, x) = ents (ps.set j (n, x)) := by simp [ents, List.map_set]
theorem ents_erase (ps : List (Int × AVal)) (j : Nat) : (ents ps).eraseIdx j = ents (ps.eraseIdx j) := by
  induction ps generalizing j with
  | nil => rfl
  | cons p ps ih => cases j with
    | zero => rfl
    | succ j => simp only [ents, List.map_cons, List.eraseIdx_cons_succ]; congr 1; exact ih j

theorem MapV.mput (h : MapV σ l ps) (n : Int) (x : AVal) : ∃ qs, (∀ {Rt : Type} (K : Heap → Option Rt), mputK σ (.map l) .i64 n x K = K (σ.set l (.map (ents qs)))) ∧ MapV (σ.set l (.map (ents qs))) l qs ∧ (∀ k, look qs k = if k = n then some x else look ps k) ∧ qs.length ≤ ps.length + 1 := by
  rcases mfind_ents n ps 0 with ⟨h1, h2⟩ | ⟨j, y, h1, h2, h3⟩
  · refine ⟨ps ++ [(n, x)], fun K => ?_, ⟨h.lt, by rw [hset_get, if_pos rfl], ?_⟩, look_append ps n x h1, by simp⟩
    · simp only [mputK, h.get, h2]; congr 3; simp [ents]
    · simp only [keysOf, List.map_append, List.map_cons, List.map_nil]
      exact List.nodup_append.2 ⟨h.nodup, by simp, fun a ha b hb e => by simp at hb; subst hb; subst e; exact look_none.1 h1 ha⟩
  · obtain ⟨g1, g2⟩ := look_set ps j n x y h3 h.nodup
    refine ⟨ps.set j (n, x), fun K => ?_, ⟨h.lt, by rw [hset_get, if_pos rfl], by rw [g1]; exact h.nodup⟩, g2, by simp⟩
    simp only [mputK, h.get, h2, Nat.zero_add, ents_set]
theorem MapV.mdel (h : MapV σ l ps) (n : Int) : ∃ qs, (∀ {Rt : Type} (K : Heap → Option Rt), mdelK σ (.map l) .i64 n K = K (σ.set l (.map (ents qs)))) ∧ MapV (σ.set l (.map (ents qs))) l qs ∧ (∀ k, look qs k = if k = n then none else look ps k) ∧ qs.length ≤ ps.length := by
  rcases mfind_ents n ps 0 with ⟨h1, h2⟩ | ⟨j, y, h1, h2, h3⟩
  · refine ⟨ps, fun K => ?_, ⟨h.lt, by rw [hset_get, if_pos rfl], h.nodup⟩, fun k => ?_, Nat.le_refl _⟩
    · simp only [mdelK, h.get, h2]
    · by_cases hk : k = n
      · rw [if_pos hk, hk, h1]
      · rw [if_neg hk]
  · obtain ⟨g1, g2⟩ := look_erase ps j n y h3 h.nodup
    refine ⟨ps.eraseIdx j, fun K => ?_, ⟨h.lt, by rw [hset_get, if_pos rfl], g1⟩, g2, by rw [List.length_eraseIdx]; split <;> omega⟩
    simp only [mdelK, h.get, h2, Nat.zero_add, ents_erase]
end
end Go.Proofs.YtgneblbblihaoaaDoor.A

/- Renamed clauses: the program's way, the reference's way. -/
namespace Go.Proofs.YtgneblbblihaoaaDoor.A
open Go

def place (ws : List Int) (v : Int) : Nat := ((ws.findIdx? (· == v)).map (· + 1)).getD 0
theorem place_push (ws : List Int) (w v : Int) : place (ws ++ [w]) v = if place ws v = 0 ∧ w = v then ws.length + 1 else place ws v := by
  unfold place
  rw [List.findIdx?_append]
  cases h : ws.findIdx? (· == v) with
  | some k => simp
  | none =>
    by_cases hw : w = v
    · subst hw; simp [List.findIdx?_cons]
    · simp [List.findIdx?_cons, hw]
theorem place_le (ws : List Int) (v : Int) : place ws v ≤ ws.length := by
  unfold place
  cases h : ws.findIdx? (· == v) with
  | some k =>
    obtain ⟨hk, _⟩ := List.findIdx?_eq_some_iff_getElem.1 h
    simp; omega
  | none => simp
theorem place_zero {ws : List Int} {v : Int} (h : ∀ w ∈ ws, w ≠ v) : place ws v = 0 := by
  unfold place
  have : ws.findIdx? (· == v) = none := by rw [List.findIdx?_eq_none_iff]; intro w hw; simpa using h w hw
  rw [this]; rfl
theorem place_append_zero {ws us : List Int} {v : Int} (h : place ws v = 0) : place (ws ++ us) v = if place us v = 0 then 0 else ws.length + place us v := by
  unfold place at h ⊢
  rw [List.findIdx?_append]
  cases h1 : ws.findIdx? (· == v) with
  | some k => rw [h1] at h; simp at h
  | none =>
    cases h2 : us.findIdx? (· == v) with
    | some k => simp; omega
    | none => simp
theorem place_append_pos {ws us : List Int} {v : Int} (h : place ws v ≠ 0) : place (ws ++ us) v = place ws v := by
  unfold place at h ⊢
  rw [List.findIdx?_append]
  cases h1 : ws.findIdx? (· == v) with
  | some k => simp
  | none => rw [h1] at h; simp at h
def ren (ws : List Int) (l : Int) : Option Int := if l = 0 ∨ place ws l.natAbs = 0 then none else some (if l < 0 then -(place ws l.natAbs : Int) else (place ws l.natAbs : Int))
def renC (ws : List Int) (c : List Int) : Option (List Int) := c.mapM (ren ws)
def matrix (ws : List Int) (cs : List (List Int)) : Option (List (List Int)) := cs.mapM (renC ws)

theorem mapM_take {α β : Type} {f : α → Option β} {xs : List α} {i : Nat} {a : α} {zs : List β} (h : (xs.take i).mapM f = some zs) (ha : xs[i]? = some a) :
    (∀ b, f a = some b → (xs.take (i + 1)).mapM f = some (zs ++ [b])) ∧ (f a = none → xs.mapM f = none) := by
  refine ⟨fun b hb => ?_, fun hn => ?_⟩
  · rw [List.take_add_one, ha, List.mapM_append, h]; simp [hb]
  · have : xs = xs.take i ++ a :: xs.drop (i + 1) := by
      obtain ⟨hi, e⟩ := List.getElem?_eq_some_iff.1 ha
      rw [← e]; simp
    rw [this, List.mapM_append, h]; simp [hn]
theorem mapM_length {α β : Type} {f : α → Option β} : ∀ {xs : List α} {zs : List β}, xs.mapM f = some zs → zs.length = xs.length
  | [], zs, h => by simp at h; subst h; rfl
  | x :: xs, zs, h => by
    rw [List.mapM_cons] at h
    simp only [Option.bind_eq_bind, Option.bind_eq_some_iff, Option.pure_def, Option.some.injEq] at h
    obtain ⟨b, _, bs, h2, rfl⟩ := h
    simp [mapM_length h2]

/-- Literals that have an opposite. -/
def Nears (c : List Int) : Prop := ∀ l ∈ c, -1152921504606846976 ≤ l ∧ l ≤ 9223372036854775807

theorem var_eq {σ : Heap} {l : Int} (h : -1152921504606846976 ≤ l ∧ l ≤ 9223372036854775807) : S.lits_Var l σ = some (l.natAbs : Int) := by
  unfold S.lits_Var
  have w : IntKind.i64.wrap (0 - l) = -l := by rw [wrapS] <;> omega
  rw [w]
  congr 1
  split <;> omega

theorem vI_one {σ : Heap} (z : Int) : Vw.int.rel σ z [.int .i64 z] := rfl

/-- The program's inner loop. -/
theorem matrix_b1 {σ0 : Heap} {l4 : Nat} {ps : List (Int × AVal)} {ws c : List Int} {v X : AVal} {p45 : AVal} {p46 p47 : Int} (hm : MapV σ0 l4 ps) (hl : ∀ v, (look ps v).getD (.int .i64 0) = .int .i64 (place ws v)) (hws : ws.length ≤ 100000) (hc : SlV .int σ0 c v) (hn : Nears c) (hlen : c.length ≤ 100000) {x : AVal} {τ0 : Heap} (L0 : Hle σ0 τ0) (A0 : Acc .int σ0.next τ0 [] x) :
    ∃ r τ, loopW (S.prefix_Matrix.b1 (.map l4) X p45 p46 p47 v c.length) (x, 0) τ0 = some (r, τ) ∧ Hle σ0 τ ∧
      ((renC ws c = none ∧ r = .inr (.nils, false)) ∨ ∃ zs y, renC ws c = some zs ∧ r = .inl y ∧ Acc .int σ0.next τ zs y) := by
  refine loopW_inv (f := S.prefix_Matrix.b1 (.map l4) X p45 p46 p47 v c.length) (x := (x, 0)) (σ := τ0) c.length (fun i y τ => y.2 = (i : Int) ∧ Hle σ0 τ ∧ ∃ zs, (c.take i).mapM (ren ws) = some zs ∧ Acc .int σ0.next τ zs y.1)
    (fun r τ => Hle σ0 τ ∧ ((renC ws c = none ∧ r = .inr (.nils, false)) ∨ ∃ zs y, renC ws c = some zs ∧ r = .inl y ∧ Acc .int σ0.next τ zs y)) ?_ ?_ ⟨rfl, L0, [], by simp, A0⟩
  · intro i y τ hi hI
    obtain ⟨h1, L, zs, hz, hA⟩ := hI
    obtain ⟨y, j⟩ := y
    simp only at h1; subst h1
    obtain ⟨a, ha⟩ : ∃ a, c[i]? = some a := ⟨_, List.getElem?_eq_getElem hi⟩
    obtain ⟨p, us, c2, c3, c1⟩ := hc.ix ha
    have hd : decide ((i : Int) < (c.length : Int)) = true := decide_eq_true (by omega)
    have w2 : IntKind.i64.wrap ((i : Int) + 1) = ((i + 1 : Nat) : Int) := by rw [wrapS] <;> omega
    have hna := hn a (List.mem_of_getElem? ha)
    have hple := place_le ws a.natAbs
    have hzl := mapM_length hz
    simp only [List.length_take] at hzl
    obtain ⟨q1, q2⟩ := mapM_take hz ha
    unfold S.prefix_Matrix.b1
    simp only [hd, cond_true, w2]
    rw [show ixA τ v 1 = ixA τ v Vw.int.sz from rfl, c1 L, ld_i (c2.mono L) (Vw.int.mono L c3), var_eq hna]
    simp only [Option.bind_some]
    rw [(hm.mono L).mgetZ, hl]
    have hk : ∀ {Rt : Type} (K : Int → Option Rt), asK (.I .i64) (.int .i64 (place ws a.natAbs)) K = K (place ws a.natAbs) := fun K => by simp [asK]
    rw [hk]
    by_cases h0 : a = 0 ∨ place ws a.natAbs = 0
    · have hr : ren ws a = none := by unfold ren; rw [if_pos h0]
      have hcnd : (cond ((place ws a.natAbs : Int) == 0) (some true) (some (a == 0))) = some true := by
        rcases h0 with h0 | h0
        · subst h0; cases h : ((place ws (0 : Int).natAbs : Int) == 0) <;> rfl
        · rw [h0]; rfl
      rw [hcnd]
      simp only [Option.bind_some, cond_true]
      exact .inr ⟨_, τ, rfl, L, .inl ⟨q2 hr, rfl⟩⟩
    · have hcnd : (cond ((place ws a.natAbs : Int) == 0) (some true) (some (a == 0))) = some false := by
        have h1 : ((place ws a.natAbs : Int) == 0) = false := by have := fun e => h0 (Or.inr e); simpa using this
        have h2 : (a == 0) = false := by have := fun e => h0 (Or.inl e); simpa using this
        rw [h1, h2]; rfl
      have hr : ren ws a = some (if a < 0 then -(place ws a.natAbs : Int) else (place ws a.natAbs : Int)) := by unfold ren; rw [if_neg h0]
      have hneg : (cond (decide (a < 0)) (some (IntKind.i64.wrap (0 - (place ws a.natAbs : Int)))) (some (place ws a.natAbs : Int))) = some (if a < 0 then -(place ws a.natAbs : Int) else (place ws a.natAbs : Int)) := by
        by_cases hlt : a < 0
        · rw [if_pos hlt, show decide (a < 0) = true from decide_eq_true hlt]
          simp only [cond_true]; congr 1; rw [wrapS] <;> omega
        · rw [if_neg hlt, show decide (a < 0) = false from decide_eq_false hlt]; rfl
      rw [hcnd]
      simp only [Option.bind_some, cond_false]
      rw [hneg]
      simp only [Option.bind_some, newK]
      obtain ⟨y', τ', a1, a2, a3, _⟩ := hA.push (bytes := 8) (cs := [.int .i64 (if a < 0 then -(place ws a.natAbs : Int) else (place ws a.natAbs : Int))]) L (vI_one _) (by omega) (by omega)
      have a1 : ∀ {Rt : Type} (K : AVal → Heap → Option Rt), appS (τ.new (.cells .rw 1 [.int .i64 (if a < 0 then -(place ws a.natAbs : Int) else (place ws a.natAbs : Int))])) 1 8 y (.sl τ.next 0 1 none) K = K y' τ' := a1
      rw [a1]
      simp only [Option.bind_some]
      exact .inl ⟨_, τ', rfl, rfl, a2, _, q1 _ hr, a3⟩
  · intro y τ hI
    obtain ⟨h1, L, zs, hz, hA⟩ := hI
    obtain ⟨y, j⟩ := y
    simp only at h1; subst h1
    rw [List.take_length] at hz
    refine ⟨.inl y, τ, ?_, L, .inr ⟨zs, y, hz, rfl, hA⟩⟩
    unfold S.prefix_Matrix.b1
    have hd : decide ((c.length : Int) < (c.length : Int)) = false := by simp
    simp only [hd, cond_false]

abbrev vIs : Vw (List Int) := Vw.sl .int
theorem vIs_one {σ : Heap} {zs : List Int} {y : AVal} (h : SlV .int σ zs y) : vIs.rel σ zs [y] := ⟨y, rfl, h⟩

theorem matrix_b2 {σ0 : Heap} {l4 : Nat} {ps : List (Int × AVal)} {ws : List Int} {cs : List (List Int)} {v : AVal} (hm : MapV σ0 l4 ps) (hl : ∀ v, (look ps v).getD (.int .i64 0) = .int .i64 (place ws v)) (hws : ws.length ≤ 100000) (hc : SlV vIs σ0 cs v) (hn : ∀ c ∈ cs, Nears c ∧ c.length ≤ 100000) (hlen : cs.length ≤ 100000) {x : AVal} {τ0 : Heap} (L0 : Hle σ0 τ0) (A0 : Acc vIs σ0.next τ0 [] x) :
    ∃ r τ, loopW (S.prefix_Matrix.b2 (.map l4) v cs.length) (x, 0) τ0 = some (r, τ) ∧ Hle σ0 τ ∧
      ((matrix ws cs = none ∧ r = .inr (.nils, false)) ∨ ∃ zs y, matrix ws cs = some zs ∧ r = .inl y ∧ Acc vIs σ0.next τ zs y) := by
  refine loopW_inv (f := S.prefix_Matrix.b2 (.map l4) v cs.length) (x := (x, 0)) (σ := τ0) cs.length (fun i y τ => y.2 = (i : Int) ∧ Hle σ0 τ ∧ ∃ zs, (cs.take i).mapM (renC ws) = some zs ∧ Acc vIs σ0.next τ zs y.1)
    (fun r τ => Hle σ0 τ ∧ ((matrix ws cs = none ∧ r = .inr (.nils, false)) ∨ ∃ zs y, matrix ws cs = some zs ∧ r = .inl y ∧ Acc vIs σ0.next τ zs y)) ?_ ?_ ⟨rfl, L0, [], by simp, A0⟩
  · intro i y τ hi hI
    obtain ⟨h1, L, zs, hz, hA⟩ := hI
    obtain ⟨y, j⟩ := y
    simp only at h1; subst h1
    obtain ⟨a, ha⟩ : ∃ a, cs[i]? = some a := ⟨_, List.getElem?_eq_getElem hi⟩
    obtain ⟨p, us, c2, c3, c1⟩ := hc.ix ha
    obtain ⟨w, rfl, hw⟩ := c3
    have hd : decide ((i : Int) < (cs.length : Int)) = true := decide_eq_true (by omega)
    have w2 : IntKind.i64.wrap ((i : Int) + 1) = ((i + 1 : Nat) : Int) := by rw [wrapS] <;> omega
    obtain ⟨hna, hnl⟩ := hn a (List.mem_of_getElem? ha)
    have hzl := mapM_length hz
    simp only [List.length_take] at hzl
    obtain ⟨q1, q2⟩ := mapM_take hz ha
    unfold S.prefix_Matrix.b2
    simp only [hd, cond_true, w2]
    rw [show ixA τ v 1 = ixA τ v vIs.sz from rfl, c1 L, (c2.mono L).ld]
    simp only [asK]
    rw [hw.len]
    obtain ⟨x1, τ1, e1, L1, A1⟩ := mk0 (v := Vw.int) (σ := τ) (n := a.length) (bytes := 8) (z := [.int .i64 0]) (by omega) (by omega)
    have e1 : ∀ {Rt : Type} (K : AVal → Heap → Option Rt), mkS τ 1 8 [.int .i64 0] 0 (a.length : Int) K = K x1 τ1 := e1
    rw [e1, hw.len]
    obtain ⟨r, τ2, e2, L2, hr⟩ := matrix_b1 (X := y) (p45 := v) (p46 := cs.length) (p47 := i) (hm.mono L) hl hws (hw.mono L) hna hnl L1 A1
    rw [e2]
    simp only [Option.bind_some]
    rcases hr with ⟨hr1, rfl⟩ | ⟨zc, yc, hr1, rfl, hAc⟩
    · exact .inr ⟨_, τ2, rfl, L.trans L2, .inl ⟨q2 hr1, rfl⟩⟩
    · simp only []
      rw [hAc.sl.scal]
      simp only [newK]
      have hA1 := hA.mono L2
      obtain ⟨y', τ', a1, a2, a3, _⟩ := hA1.push (bytes := 24) (cs := [yc]) (L.trans L2) (vIs_one (hAc.sl_out Vw.int_flat hA (Nat.le_refl _))) (by omega) (by omega)
      have a1 : ∀ {Rt : Type} (K : AVal → Heap → Option Rt), appS (τ2.new (.cells .rw 1 [yc])) 1 24 y (.sl τ2.next 0 1 none) K = K y' τ' := a1
      rw [a1]
      exact .inl ⟨_, τ', rfl, rfl, a2, _, q1 _ hr1, a3⟩
  · intro y τ hI
    obtain ⟨h1, L, zs, hz, hA⟩ := hI
    obtain ⟨y, j⟩ := y
    simp only at h1; subst h1
    rw [List.take_length] at hz
    refine ⟨.inl y, τ, ?_, L, .inr ⟨zs, y, hz, rfl, hA⟩⟩
    unfold S.prefix_Matrix.b2
    have hd : decide ((cs.length : Int) < (cs.length : Int)) = false := by simp
    simp only [hd, cond_false]
end Go.Proofs.YtgneblbblihaoaaDoor.A

/- A game's matrix. -/
namespace Go.Proofs.YtgneblbblihaoaaDoor.A
open Go

theorem at_set_ne {σ τ : Heap} {l : Nat} (hn : τ.next = σ.next) (hg : ∀ k, k ≠ l → τ.get k = σ.get k) {σ0 : Heap} (L : Hle σ0 σ) (hl : σ0.next ≤ l) : Hle σ0 τ :=
  ⟨by rw [hn]; exact L.next, fun k o hk h => by rw [hg k (by omega)]; exact L.get k o hk h⟩

theorem matrix_b0 {σb : Heap} {l4 : Nat} {ws : List Int} {v p12 : AVal} (hm : MapV σb l4 []) (hv : SlV .int σb ws v) (hne : ∀ l off len c, v = .sl l off len c → l ≠ l4) (hlen : ws.length ≤ 100000) :
    ∃ r τ, loopW (S.prefix_Matrix.b0 p12 (.map l4) v ws.length) 0 σb = some (r, τ) ∧ τ.next = σb.next ∧ (∀ k, k ≠ l4 → τ.get k = σb.get k) ∧ ∃ ps, MapV τ l4 ps ∧ ∀ v, (look ps v).getD (.int .i64 0) = .int .i64 (place ws v) := by
  refine loopW_inv (f := S.prefix_Matrix.b0 p12 (.map l4) v ws.length) (x := 0) (σ := σb) ws.length (fun i x τ => x = (i : Int) ∧ τ.next = σb.next ∧ (∀ k, k ≠ l4 → τ.get k = σb.get k) ∧ ∃ ps, MapV τ l4 ps ∧ ∀ v, (look ps v).getD (.int .i64 0) = .int .i64 (place (ws.take i) v))
    (fun r τ => τ.next = σb.next ∧ (∀ k, k ≠ l4 → τ.get k = σb.get k) ∧ ∃ ps, MapV τ l4 ps ∧ ∀ v, (look ps v).getD (.int .i64 0) = .int .i64 (place ws v)) ?_ ?_ ⟨rfl, rfl, fun _ _ => rfl, [], hm, fun v => rfl⟩
  · intro i x τ hi hI
    obtain ⟨rfl, hn, hg, ps, hps, hl⟩ := hI
    obtain ⟨a, ha⟩ : ∃ a, ws[i]? = some a := ⟨_, List.getElem?_eq_getElem hi⟩
    have hv' : SlV .int τ ws v := hv.flat Vw.int_flat (by omega) fun l off len c e => hg l (hne l off len c e)
    obtain ⟨p, us, c2, c3, c1⟩ := hv'.ix ha
    have hd : decide ((i : Int) < (ws.length : Int)) = true := decide_eq_true (by omega)
    have w2 : IntKind.i64.wrap ((i : Int) + 1) = ((i + 1 : Nat) : Int) := by rw [wrapS] <;> omega
    have htl : (ws.take i).length = i := by simp; omega
    have hpush : ∀ v, place (ws.take (i + 1)) v = if place (ws.take i) v = 0 ∧ a = v then i + 1 else place (ws.take i) v := fun v => by
      rw [List.take_add_one, ha]
      show place (ws.take i ++ [a]) v = _
      rw [place_push, htl]
    refine .inl ?_
    unfold S.prefix_Matrix.b0
    simp only [hd, cond_true, w2]
    rw [show ixA τ v 1 = ixA τ v Vw.int.sz from rfl, c1 (Hle.refl _), ld_i c2 c3, hps.mgetZ, hl]
    simp only [asK, if_true]
    by_cases h0 : place (ws.take i) a = 0
    · rw [h0]
      simp only [show (((0 : Nat) : Int) == 0) = true from rfl, cond_true]
      obtain ⟨qs, e1, e2, e3, _⟩ := hps.mput a (.int .i64 ((i + 1 : Nat) : Int))
      rw [e1]
      simp only [Option.bind_some]
      refine ⟨_, _, rfl, rfl, hn, fun k hk => by rw [hset_get, if_neg hk]; exact hg k hk, qs, e2, fun v => ?_⟩
      rw [e3, hpush]
      by_cases hva : v = a
      · subst hva; simp [h0]
      · rw [if_neg hva, if_neg (fun h => hva h.2.symm)]; exact hl v
    · have : (((place (ws.take i) a : Nat) : Int) == 0) = false := by simpa using h0
      simp only [this, cond_false, Option.bind_some]
      refine ⟨_, _, rfl, rfl, hn, hg, ps, hps, fun v => ?_⟩
      rw [hpush, if_neg (fun h => h0 (by rw [h.2]; exact h.1))]; exact hl v
  · intro x τ hI
    obtain ⟨rfl, hn, hg, ps, hps, hl⟩ := hI
    rw [List.take_length] at hl
    refine ⟨(), τ, ?_, hn, hg, ps, hps, hl⟩
    unfold S.prefix_Matrix.b0
    have hd : decide ((ws.length : Int) < (ws.length : Int)) = false := by simp
    simp only [hd, cond_false]

theorem prefixMatrix_eq {σ : Heap} {e : Bool} {outer inner : List Int} {cs : List (List Int)} {vo vi vc : AVal} (ho : SlV .int σ outer vo) (hi : SlV .int σ inner vi) (hc : SlV vIs σ cs vc) (h1 : outer.length ≤ 1000) (h2 : inner.length ≤ 1000) (hn : ∀ c ∈ cs, Nears c ∧ c.length ≤ 100000) (h3 : cs.length ≤ 100000) :
    ∃ y τ, S.prefix_Matrix (.agg [.bool e, vo, vi, vc]) σ = some ((y, (matrix (outer ++ inner) cs).isSome), τ) ∧ Hle σ τ ∧ SlV vIs τ ((matrix (outer ++ inner) cs).getD []) y := by
  unfold S.prefix_Matrix
  simp only [aggK, newK, List.length_cons, List.length_nil, if_true, newM]
  have A1 := At.new σ 4 [.bool e, vo, vi, vc]
  have L1 := (Hle.refl σ).new (.cells .rw 4 [.bool e, vo, vi, vc])
  generalize hσ1 : σ.new (.cells .rw 4 [.bool e, vo, vi, vc]) = σ1 at A1 L1 ⊢
  have M2 := MapV.new σ1
  have L2 := (Hle.refl σ1).new (.map [])
  generalize hσ2 : σ1.new (.map []) = σ2 at M2 L2 ⊢
  have hn2 : σ2.next = σ1.next + 1 := by rw [← hσ2]; rfl
  rw [(A1.mono L2).ld0 (k := 1) rfl]
  simp only [asK]
  rw [(A1.mono L2).ld0 (k := 2) rfl]
  simp only [asK]
  rw [ho.scal, hi.scal]
  have L12 := L1.trans L2
  have hsrc : SlV vIs (σ2.new (.cells .rw 1 [vo, vi])) [outer, inner] (.sl σ2.next 0 2 none) := by
    have L3 := (Hle.refl σ2).new (.cells .rw 1 [vo, vi])
    refine .inr ⟨σ2.next, 0, none, .rw, [vo, vi], rfl, Nat.lt_succ_self _, by rw [hnew_get, if_pos rfl]; rfl, by simp [vIs, Vw.sl], fun j z hz => ?_⟩
    match j with
    | 0 => simp at hz; subst hz; exact ⟨vo, rfl, (ho.mono L12).mono L3⟩
    | 1 => simp at hz; subst hz; exact ⟨vi, rfl, (hi.mono L12).mono L3⟩
    | j + 2 => simp at hz
  have L3 := (Hle.refl σ2).new (.cells .rw 1 [vo, vi])
  generalize hσ3 : σ2.new (.cells .rw 1 [vo, vi]) = σ3 at hsrc L3 ⊢
  obtain ⟨w, σ4, e4, L4, hw⟩ := concat_eq hsrc (by simp; omega) (by simp)
  simp only [List.flatten_cons, List.flatten_nil, List.append_nil] at hw
  rw [e4]
  simp only [Option.bind_some]
  rw [hw.len]
  obtain ⟨r, σ5, e5, hn5, hg5, ps, hps, hl⟩ := matrix_b0 (p12 := .ptr σ.next 0) ((M2.mono L3).mono L4) hw.sl (fun l off len c e => by have := (hw.loc l off len c e).1; have := L3.next; omega) (by simp; omega)
  rw [e5]
  simp only [Option.bind_some]
  have L15 : Hle σ1 σ5 := at_set_ne hn5 hg5 ((L2.trans L3).trans L4) (Nat.le_refl _)
  rw [(A1.mono L15).ld0 (k := 3) rfl]
  simp only [asK]
  rw [hc.len]
  obtain ⟨x6, σ6, e6, L6, A6⟩ := mk0 (v := vIs) (σ := σ5) (n := cs.length) (bytes := 24) (z := [.nils]) (by omega) (by omega)
  have e6 : ∀ {Rt : Type} (K : AVal → Heap → Option Rt), mkS σ5 1 24 [.nils] 0 (cs.length : Int) K = K x6 σ6 := e6
  rw [e6, (A1.mono (L15.trans L6)).ld0 (k := 3) rfl]
  simp only [asK]
  rw [hc.len]
  obtain ⟨r7, σ7, e7, L7, hr⟩ := matrix_b2 hps hl (by simp; omega) (hc.mono (L1.trans L15)) hn h3 L6 A6
  rw [e7]
  simp only [Option.bind_some]
  rcases hr with ⟨hr1, rfl⟩ | ⟨zs, y, hr1, rfl, hA⟩
  · rw [hr1]; exact ⟨_, σ7, rfl, (L1.trans L15).trans L7, SlV.nil _ _⟩
  · rw [hr1]; exact ⟨_, σ7, rfl, (L1.trans L15).trans L7, hA.sl⟩

/-! ### the reference -/
theorem place_hit {ws : List Int} {i : Nat} {v : Int} (h : ws[i]? = some v) (h0 : place (ws.take i) v = 0) : place ws v = i + 1 := by
  have hi := (List.getElem?_eq_some_iff.1 h).1
  have e : ws = ws.take (i + 1) ++ ws.drop (i + 1) := (List.take_append_drop ..).symm
  have h1 : place (ws.take (i + 1)) v = i + 1 := by
    rw [List.take_add_one, h]
    show place (ws.take i ++ [v]) v = _
    rw [place_push, if_pos ⟨h0, rfl⟩]; simp; omega
  rw [e, place_append_pos (by rw [h1]; omega), h1]
theorem place_miss {ws : List Int} {i : Nat} {v a : Int} (h : ws[i]? = some a) (hne : a ≠ v) (h0 : place (ws.take i) v = 0) : place (ws.take (i + 1)) v = 0 := by
  rw [List.take_add_one, h]
  show place (ws.take i ++ [a]) v = _
  rw [place_push, if_neg (fun h => hne h.2)]; exact h0

theorem refPlace_eq {σ : Heap} {e : Bool} {outer inner : List Int} {vo vi vc : AVal} {v : Int} (ho : SlV .int σ outer vo) (hi : SlV .int σ inner vi) (h1 : outer.length ≤ 1000) (h2 : inner.length ≤ 1000) :
    ∃ τ, S.skolemref1_place (.agg [.bool e, vo, vi, vc]) v σ = some (((place (outer ++ inner) v : Nat) : Int), τ) ∧ Hle σ τ := by
  unfold S.skolemref1_place
  simp only [aggK, newK, List.length_cons, List.length_nil, if_true]
  have A1 := At.new σ 4 [.bool e, vo, vi, vc]
  have L1 := (Hle.refl σ).new (.cells .rw 4 [.bool e, vo, vi, vc])
  generalize hσ1 : σ.new (.cells .rw 4 [.bool e, vo, vi, vc]) = σ1 at A1 L1 ⊢
  refine ⟨σ1, ?_, L1⟩
  obtain ⟨q1, f1, B1⟩ := A1.fld 1 (by simp)
  obtain ⟨q2, f2, B2⟩ := A1.fld 2 (by simp)
  have B1 : At σ1 q1 (vo :: [vi, vc]) := B1
  have B2 : At σ1 q2 (vi :: [vc]) := B2
  have g1 : ∀ {Rt : Type} (K : AVal → Option Rt), ld σ1 q1 .V K = K vo := fun K => by rw [B1.ld]; rfl
  have g2 : ∀ {Rt : Type} (K : AVal → Option Rt), ld σ1 q2 .V K = K vi := fun K => by rw [B2.ld]; rfl
  obtain ⟨r, e1, hr⟩ := loopP_inv (f := S.skolemref1_place.b0 v (.ptr σ.next 0) σ1) (x := (0 : Int)) outer.length (fun i x => x = (i : Int) ∧ place (outer.take i) v = 0) (fun r => (r = .inl () ∧ place outer v = 0) ∨ (r = .inr (place outer v : Int) ∧ place outer v ≠ 0))
    (fun i x hi' hI => by
      obtain ⟨rfl, h0⟩ := hI
      obtain ⟨a, ha⟩ : ∃ a, outer[i]? = some a := ⟨_, List.getElem?_eq_getElem hi'⟩
      obtain ⟨p, us, c2, c3, c1⟩ := (ho.mono L1).ix ha
      have hd : decide ((i : Int) < (outer.length : Int)) = true := decide_eq_true (by omega)
      have w2 : IntKind.i64.wrap ((i : Int) + 1) = ((i + 1 : Nat) : Int) := by rw [wrapS] <;> omega
      unfold S.skolemref1_place.b0
      rw [f1, g1, ho.len]
      simp only [hd, cond_true, w2]
      rw [f1, g1, show ixA σ1 vo 1 = ixA σ1 vo Vw.int.sz from rfl, c1 (Hle.refl _), ld_i c2 c3]
      by_cases hav : a = v
      · subst hav
        have := place_hit ha h0
        refine .inr ⟨.inr ((i + 1 : Nat) : Int), by simp only [beq_self_eq_true, cond_true], .inr ⟨by rw [this], by omega⟩⟩
      · have : (a == v) = false := by simpa using hav
        exact .inl ⟨_, by simp only [this, cond_false], rfl, place_miss ha hav h0⟩)
    (fun x hI => by
      obtain ⟨rfl, h0⟩ := hI
      rw [List.take_length] at h0
      refine ⟨.inl (), ?_, .inl ⟨rfl, h0⟩⟩
      unfold S.skolemref1_place.b0
      have hd : decide ((outer.length : Int) < (outer.length : Int)) = false := by simp
      rw [f1, g1, ho.len]; simp only [hd, cond_false]) ⟨rfl, by simp [place]⟩
  rw [e1]
  simp only [Option.bind_some]
  rcases hr with ⟨rfl, h0⟩ | ⟨rfl, h0⟩
  · simp only []
    obtain ⟨r2, e2, hr2⟩ := loopP_inv (f := S.skolemref1_place.b1 v (.ptr σ.next 0) σ1) (x := (0 : Int)) inner.length (fun i x => x = (i : Int) ∧ place (inner.take i) v = 0) (fun r => (r = .inl () ∧ place inner v = 0) ∨ (r = .inr ((outer.length + place inner v : Nat) : Int) ∧ place inner v ≠ 0))
      (fun i x hi' hI => by
        obtain ⟨rfl, h0⟩ := hI
        obtain ⟨a, ha⟩ : ∃ a, inner[i]? = some a := ⟨_, List.getElem?_eq_getElem hi'⟩
        obtain ⟨p, us, c2, c3, c1⟩ := (hi.mono L1).ix ha
        have hd : decide ((i : Int) < (inner.length : Int)) = true := decide_eq_true (by omega)
        have w2 : IntKind.i64.wrap ((i : Int) + 1) = ((i + 1 : Nat) : Int) := by rw [wrapS] <;> omega
        have w3 : IntKind.i64.wrap ((IntKind.i64.wrap ((outer.length : Int) + (i : Int))) + 1) = ((outer.length + (i + 1) : Nat) : Int) := by
          have w4 : IntKind.i64.wrap ((outer.length : Int) + (i : Int)) = ((outer.length + i : Nat) : Int) := by rw [wrapS] <;> omega
          rw [w4, wrapS] <;> omega
        unfold S.skolemref1_place.b1
        rw [f2, g2, hi.len]
        simp only [hd, cond_true, w2]
        rw [f2, g2, show ixA σ1 vi 1 = ixA σ1 vi Vw.int.sz from rfl, c1 (Hle.refl _), ld_i c2 c3]
        by_cases hav : a = v
        · subst hav
          have := place_hit ha h0
          refine .inr ⟨.inr ((outer.length + (i + 1) : Nat) : Int), by simp only [beq_self_eq_true, cond_true]; rw [f1, g1, ho.len, w3], .inr ⟨by rw [this], by omega⟩⟩
        · have : (a == v) = false := by simpa using hav
          exact .inl ⟨_, by simp only [this, cond_false], rfl, place_miss ha hav h0⟩)
      (fun x hI => by
        obtain ⟨rfl, h0⟩ := hI
        rw [List.take_length] at h0
        refine ⟨.inl (), ?_, .inl ⟨rfl, h0⟩⟩
        unfold S.skolemref1_place.b1
        have hd : decide ((inner.length : Int) < (inner.length : Int)) = false := by simp
        rw [f2, g2, hi.len]; simp only [hd, cond_false]) ⟨rfl, by simp [place]⟩
    rw [e2, place_append_zero h0]
    rcases hr2 with ⟨rfl, h3⟩ | ⟨rfl, h3⟩
    · rw [if_pos h3]; rfl
    · rw [if_neg h3]; rfl
  · rw [place_append_pos h0]
end Go.Proofs.YtgneblbblihaoaaDoor.A

/- PrefixMatrix, as0 plain law. -/
namespace Go.Proofs.YtgneblbblihaoaaDoor.A
open Go

theorem abs_eq {σ : Heap} {l : Int} (h : -1152921504606846976 ≤ l ∧ l ≤ 9223372036854775807) : S.skolemref_Abs l σ = some (l.natAbs : Int) := by
  unfold S.skolemref_Abs
  by_cases hl : l < 0
  · rw [show decide (l < 0) = true from decide_eq_true hl]
    simp only [cond_true]; congr 1; rw [wrapS] <;> omega
  · rw [show decide (l < 0) = false from decide_eq_false hl]
    simp only [cond_false]; congr 1; omega

theorem refMatrix_b0 {σ0 : Heap} {e : Bool} {outer inner : List Int} {cs : List (List Int)} {vo vi vc p10 x : AVal} {j : Nat} {c : List Int} (hp : At σ0 p10 [.bool e, vo, vi, vc]) (ho : SlV .int σ0 outer vo) (hi : SlV .int σ0 inner vi) (hc : SlV vIs σ0 cs vc) (h1 : outer.length ≤ 1000) (h2 : inner.length ≤ 1000)
    (hj : cs[j]? = some c) (hn : Nears c) (hlen : c.length ≤ 100000) :
    ∃ r τ, loopW (S.skolemref1_Matrix.b0 p10 x (j : Int)) (.nils, 0) σ0 = some (r, τ) ∧ Hle σ0 τ ∧
      ((renC (outer ++ inner) c = none ∧ r = .inr (.nils, false)) ∨ ∃ zs y, renC (outer ++ inner) c = some zs ∧ r = .inl y ∧ Acc .int σ0.next τ zs y) := by
  obtain ⟨q, f1, B1⟩ := hp.fld 3 (by simp)
  have B1 : At σ0 q (vc :: []) := B1
  obtain ⟨p, us, c2, c3, c1⟩ := hc.ix hj
  obtain ⟨v, rfl, hv⟩ := c3
  have get : ∀ {τ : Heap}, Hle σ0 τ → ∀ {Rt : Type} (K : AVal → Option Rt), (fld p10 3 fun a => ld τ a (.V) fun v => ixA τ v 1 (j : Int) fun a => ld τ a (.V) K) = K v := fun {τ} L {_} K => by
    rw [f1, (B1.mono L).ld]
    simp only [asK]
    rw [show ixA τ vc 1 = ixA τ vc vIs.sz from rfl, c1 L, (c2.mono L).ld]
    simp only [asK]
  refine loopW_inv (f := S.skolemref1_Matrix.b0 p10 x (j : Int)) (x := (.nils, 0)) (σ := σ0) c.length (fun i y τ => y.2 = (i : Int) ∧ Hle σ0 τ ∧ ∃ zs, (c.take i).mapM (ren (outer ++ inner)) = some zs ∧ Acc .int σ0.next τ zs y.1)
    (fun r τ => Hle σ0 τ ∧ ((renC (outer ++ inner) c = none ∧ r = .inr (.nils, false)) ∨ ∃ zs y, renC (outer ++ inner) c = some zs ∧ r = .inl y ∧ Acc .int σ0.next τ zs y)) ?_ ?_ ⟨rfl, Hle.refl _, [], by simp, Acc.nil _ _ _⟩
  · intro i y τ hi' hI
    obtain ⟨h1', L, zs, hz, hA⟩ := hI
    obtain ⟨y, k⟩ := y
    simp only at h1'; subst h1'
    obtain ⟨a, ha⟩ : ∃ a, c[i]? = some a := ⟨_, List.getElem?_eq_getElem hi'⟩
    obtain ⟨p2, us2, d2, d3, d1⟩ := hv.ix ha
    have hd : decide ((i : Int) < (c.length : Int)) = true := decide_eq_true (by omega)
    have w2 : IntKind.i64.wrap ((i : Int) + 1) = ((i + 1 : Nat) : Int) := by rw [wrapS] <;> omega
    have hna := hn a (List.mem_of_getElem? ha)
    have hple := place_le (outer ++ inner) a.natAbs
    rw [List.length_append] at hple
    have hzl := mapM_length hz
    simp only [List.length_take] at hzl
    obtain ⟨q1, q2⟩ := mapM_take hz ha
    have wn : IntKind.i64.wrap (0 - a) = -a := by rw [wrapS] <;> omega
    unfold S.skolemref1_Matrix.b0
    rw [get L, hv.len]
    simp only [hd, cond_true, w2]
    rw [get L, show ixA τ v 1 = ixA τ v Vw.int.sz from rfl, d1 L, ld_i (d2.mono L) (Vw.int.mono L d3), wn]
    by_cases h0 : a = 0
    · subst h0
      simp only [show ((0 : Int) == -0) = true from rfl, cond_true, Option.bind_some]
      exact .inr ⟨_, τ, rfl, L, .inl ⟨q2 (by simp [ren]), rfl⟩⟩
    · have : (a == -a) = false := by have : a ≠ -a := by omega
                                     simpa using this
      simp only [this, cond_false]
      rw [(hp.mono L).ldG (n := 4) rfl, abs_eq hna]
      simp only [Option.bind_some]
      obtain ⟨τ1, e1, L1⟩ := refPlace_eq (e := e) (vc := vc) (v := (a.natAbs : Int)) (ho.mono L) (hi.mono L) h1 h2
      rw [e1]
      simp only [Option.bind_some]
      by_cases hp0 : place (outer ++ inner) a.natAbs = 0
      · rw [hp0]
        simp only [show (((0 : Nat) : Int) == 0) = true from rfl, cond_true, Option.bind_some]
        exact .inr ⟨_, τ1, rfl, L.trans L1, .inl ⟨q2 (by simp [ren, hp0]), rfl⟩⟩
      · have : (((place (outer ++ inner) a.natAbs : Nat) : Int) == 0) = false := by simpa using hp0
        simp only [this, cond_false]
        have hr : ren (outer ++ inner) a = some (if a < 0 then -(place (outer ++ inner) a.natAbs : Int) else (place (outer ++ inner) a.natAbs : Int)) := by unfold ren; rw [if_neg (by rintro (h | h); exact h0 h; exact hp0 h)]
        have hneg : (cond (decide (a < 0)) (some (IntKind.i64.wrap (0 - ((place (outer ++ inner) a.natAbs : Nat) : Int)))) (some ((place (outer ++ inner) a.natAbs : Nat) : Int))) = some (if a < 0 then -(place (outer ++ inner) a.natAbs : Int) else (place (outer ++ inner) a.natAbs : Int)) := by
          by_cases hlt : a < 0
          · rw [if_pos hlt, show decide (a < 0) = true from decide_eq_true hlt]
            simp only [cond_true]; congr 1; rw [wrapS] <;> omega
          · rw [if_neg hlt, show decide (a < 0) = false from decide_eq_false hlt]; rfl
        rw [hneg]
        simp only [Option.bind_some, newK]
        have hA1 := hA.mono L1
        obtain ⟨y', τ', a1, a2, a3, _⟩ := hA1.push (bytes := 8) (cs := [.int .i64 (if a < 0 then -(place (outer ++ inner) a.natAbs : Int) else (place (outer ++ inner) a.natAbs : Int))]) (L.trans L1) (vI_one _) (by omega) (by omega)
        have a1 : ∀ {Rt : Type} (K : AVal → Heap → Option Rt), appS (τ1.new (.cells .rw 1 [.int .i64 (if a < 0 then -(place (outer ++ inner) a.natAbs : Int) else (place (outer ++ inner) a.natAbs : Int))])) 1 8 y (.sl τ1.next 0 1 none) K = K y' τ' := a1
        rw [a1]
        simp only [Option.bind_some]
        exact .inl ⟨_, τ', rfl, rfl, a2, _, q1 _ hr, a3⟩
  · intro y τ hI
    obtain ⟨h1', L, zs, hz, hA⟩ := hI
    obtain ⟨y, k⟩ := y
    simp only at h1'; subst h1'
    rw [List.take_length] at hz
    refine ⟨.inl y, τ, ?_, L, .inr ⟨zs, y, hz, rfl, hA⟩⟩
    unfold S.skolemref1_Matrix.b0
    have hd : decide ((c.length : Int) < (c.length : Int)) = false := by simp
    rw [get L, hv.len]
    simp only [hd, cond_false]

theorem refMatrix_eq {σ : Heap} {e : Bool} {outer inner : List Int} {cs : List (List Int)} {vo vi vc : AVal} (ho : SlV .int σ outer vo) (hi : SlV .int σ inner vi) (hc : SlV vIs σ cs vc) (h1 : outer.length ≤ 1000) (h2 : inner.length ≤ 1000) (hn : ∀ c ∈ cs, Nears c ∧ c.length ≤ 100000) (h3 : cs.length ≤ 100000) :
    ∃ y τ, S.skolemref1_Matrix (.agg [.bool e, vo, vi, vc]) σ = some ((y, (matrix (outer ++ inner) cs).isSome), τ) ∧ Hle σ τ ∧ SlV vIs τ ((matrix (outer ++ inner) cs).getD []) y := by
  unfold S.skolemref1_Matrix
  simp only [aggK, newK, List.length_cons, List.length_nil, if_true]
  have A1 := At.new σ 4 [.bool e, vo, vi, vc]
  have L1 := (Hle.refl σ).new (.cells .rw 4 [.bool e, vo, vi, vc])
  generalize hσ1 : σ.new (.cells .rw 4 [.bool e, vo, vi, vc]) = σ1 at A1 L1 ⊢
  obtain ⟨q, f1, B1⟩ := A1.fld 3 (by simp)
  have B1 : At σ1 q (vc :: []) := B1
  have get : ∀ {τ : Heap}, Hle σ1 τ → ∀ {Rt : Type} (K : AVal → Option Rt), (fld (.ptr σ.next 0) 3 fun a => ld τ a (.V) K) = K vc := fun {τ} L {_} K => by
    rw [f1, (B1.mono L).ld]; simp only [asK]
  obtain ⟨r, τ, e1, L, hr⟩ := loopW_inv (f := S.skolemref1_Matrix.b1 (.ptr σ.next 0)) (x := (.nils, 0)) (σ := σ1) cs.length (fun i y τ => y.2 = (i : Int) ∧ Hle σ1 τ ∧ ∃ zs, (cs.take i).mapM (renC (outer ++ inner)) = some zs ∧ Acc vIs σ1.next τ zs y.1)
    (fun r τ => Hle σ1 τ ∧ ((matrix (outer ++ inner) cs = none ∧ r = .inr (.nils, false)) ∨ ∃ zs y, matrix (outer ++ inner) cs = some zs ∧ r = .inl y ∧ Acc vIs σ1.next τ zs y))
    (fun i y τ hi' hI => by
      obtain ⟨h1', L, zs, hz, hA⟩ := hI
      obtain ⟨y, j⟩ := y
      simp only at h1'; subst h1'
      obtain ⟨a, ha⟩ : ∃ a, cs[i]? = some a := ⟨_, List.getElem?_eq_getElem hi'⟩
      have hd : decide ((i : Int) < (cs.length : Int)) = true := decide_eq_true (by omega)
      have w2 : IntKind.i64.wrap ((i : Int) + 1) = ((i + 1 : Nat) : Int) := by rw [wrapS] <;> omega
      obtain ⟨hna, hnl⟩ := hn a (List.mem_of_getElem? ha)
      have hzl := mapM_length hz
      simp only [List.length_take] at hzl
      obtain ⟨q1, q2⟩ := mapM_take hz ha
      unfold S.skolemref1_Matrix.b1
      rw [get L, hc.len]
      simp only [hd, cond_true, w2]
      have L01 := L1.trans L
      obtain ⟨r, τ2, e2, L2, hr⟩ := refMatrix_b0 (x := y) (A1.mono L) (ho.mono L01) (hi.mono L01) (hc.mono L01) h1 h2 ha hna hnl
      rw [e2]
      simp only [Option.bind_some]
      rcases hr with ⟨hr1, rfl⟩ | ⟨zc, yc, hr1, rfl, hAc⟩
      · exact .inr ⟨_, τ2, rfl, L.trans L2, .inl ⟨q2 hr1, rfl⟩⟩
      · simp only []
        rw [hAc.sl.scal]
        simp only [newK]
        have hA1 := hA.mono L2
        obtain ⟨y', τ', a1, a2, a3, _⟩ := hA1.push (bytes := 24) (cs := [yc]) (L.trans L2) (vIs_one (hAc.sl_out Vw.int_flat hA (Nat.le_refl _))) (by omega) (by omega)
        have a1 : ∀ {Rt : Type} (K : AVal → Heap → Option Rt), appS (τ2.new (.cells .rw 1 [yc])) 1 24 y (.sl τ2.next 0 1 none) K = K y' τ' := a1
        rw [a1]
        exact .inl ⟨_, τ', rfl, rfl, a2, _, q1 _ hr1, a3⟩)
    (fun y τ hI => by
      obtain ⟨h1', L, zs, hz, hA⟩ := hI
      obtain ⟨y, j⟩ := y
      simp only at h1'; subst h1'
      rw [List.take_length] at hz
      refine ⟨.inl y, τ, ?_, L, .inr ⟨zs, y, hz, rfl, hA⟩⟩
      unfold S.skolemref1_Matrix.b1
      have hd : decide ((cs.length : Int) < (cs.length : Int)) = false := by simp
      rw [get L, hc.len]
      simp only [hd, cond_false]) ⟨rfl, Hle.refl _, [], by simp, Acc.nil _ _ _⟩
  rw [e1]
  simp only [Option.bind_some]
  rcases hr with ⟨hr1, rfl⟩ | ⟨zs, y, hr1, rfl, hA⟩
  · rw [hr1]; exact ⟨_, τ, rfl, L1.trans L, SlV.nil _ _⟩
  · rw [hr1]; exact ⟨_, τ, rfl, L1.trans L, hA.sl⟩

theorem sameClauses_eq {σ : Heap} {xs ys : List (List Int)} {x y : AVal} (hx : SlV vIs σ xs x) (hy : SlV vIs σ ys y) (hb : xs.length ≤ 1000000) (hs : ∀ a ∈ xs, a.length ≤ 1000000) :
    S.skolemref_SameClauses x y σ = some (decide (xs = ys)) := by
  unfold S.skolemref_SameClauses
  rw [hx.len, hy.len]
  by_cases hl : xs.length = ys.length
  · have hc : ((xs.length : Int) != (ys.length : Int)) = false := by simp [hl]
    rw [hc]
    simp only [cond_false]
    obtain ⟨r, e1, e2⟩ := loopP_inv (f := S.skolemref_SameClauses.b0 x y σ) (x := (0 : Int)) xs.length (fun i z => z = (i : Int) ∧ ∀ j, j < i → xs[j]? = ys[j]?) (fun r => ((r = .inl () ∧ xs = ys) ∨ (r = .inr false ∧ xs ≠ ys)))
      (fun i z hi hI => by
        obtain ⟨rfl, hI⟩ := hI
        obtain ⟨a, ha⟩ : ∃ a, xs[i]? = some a := ⟨_, List.getElem?_eq_getElem hi⟩
        obtain ⟨b, hb⟩ : ∃ b, ys[i]? = some b := ⟨_, List.getElem?_eq_getElem (by omega)⟩
        obtain ⟨p, us, c2, ⟨u, rfl, c3⟩, c1⟩ := hx.ix ha
        obtain ⟨q, ws, d2, ⟨w, rfl, d3⟩, d1⟩ := hy.ix hb
        have hd : decide ((i : Int) < (xs.length : Int)) = true := by simp; omega
        have w2 : IntKind.i64.wrap ((i : Int) + 1) = ((i + 1 : Nat) : Int) := by rw [wrapS] <;> omega
        have key : S.skolemref_SameClauses.b0 x y σ (i : Int) = cond (!(decide (a = b))) (some (.inr (.inr false))) (some (.inl ((i + 1 : Nat) : Int))) := by
          unfold S.skolemref_SameClauses.b0
          rw [hx.len, hd]
          simp only [cond_true]
          rw [show ixA σ x 1 = ixA σ x vIs.sz from rfl, show ixA σ y 1 = ixA σ y vIs.sz from rfl, c1 (Hle.refl _), c2.ld]
          simp only [asK]
          rw [d1 (Hle.refl _), d2.ld]
          simp only [asK]
          rw [sameInts_eq c3 d3 (hs a (List.mem_of_getElem? ha)), w2]
          rfl
        rw [key]
        by_cases hab : a = b
        · subst hab
          refine .inl ⟨_, by simp, rfl, fun j hj => ?_⟩
          rcases Nat.lt_succ_iff_lt_or_eq.1 hj with hj | rfl
          · exact hI j hj
          · rw [ha, hb]
        · refine .inr ⟨.inr false, by simp [hab], .inr ⟨rfl, fun e => ?_⟩⟩
          subst e; rw [ha] at hb; cases hb; exact hab rfl)
      (fun z hI => by
        obtain ⟨rfl, hI⟩ := hI
        refine ⟨.inl (), ?_, .inl ⟨rfl, ?_⟩⟩
        · unfold S.skolemref_SameClauses.b0
          have hd : decide ((xs.length : Int) < (xs.length : Int)) = false := by simp
          rw [hx.len, hd]; rfl
        · apply List.ext_getElem? fun j => ?_
          by_cases hj : j < xs.length
          · exact hI j hj
          · rw [List.getElem?_eq_none (by omega), List.getElem?_eq_none (by omega)]) ⟨rfl, fun j hj => by omega⟩
    rw [e1]
    simp only [Option.bind_some]
    rcases e2 with ⟨rfl, e⟩ | ⟨rfl, e⟩
    · simp [e]
    · simp [e]
  · have hc : ((xs.length : Int) != (ys.length : Int)) = true := by simp; omega
    rw [hc]
    have : xs ≠ ys := fun e => hl (by rw [e])
    simp [this]

/-! ### guards -/
theorem near_eq {σ : Heap} {xs : List Int} {x : AVal} (hx : SlV .int σ xs x) (hb : xs.length ≤ 4611686018427387904) : ∃ b, S.skolemmake_Near x σ = some b ∧ (b = true → ∀ l ∈ xs, -1152921504606846976 ≤ l) := by
  unfold S.skolemmake_Near
  obtain ⟨r, e1, hr⟩ := loopP_inv (f := S.skolemmake_Near.b0 x σ) (x := (0 : Int)) xs.length (fun i z => z = (i : Int) ∧ ∀ j l, j < i → xs[j]? = some l → -1152921504606846976 ≤ l) (fun r => r = .inr false ∨ (r = .inl () ∧ ∀ l ∈ xs, -1152921504606846976 ≤ l))
    (fun i z hi hI => by
      obtain ⟨rfl, hI⟩ := hI
      obtain ⟨a, ha⟩ : ∃ a, xs[i]? = some a := ⟨_, List.getElem?_eq_getElem hi⟩
      obtain ⟨p, us, c2, c3, c1⟩ := hx.ix ha
      have hd : decide ((i : Int) < (xs.length : Int)) = true := decide_eq_true (by omega)
      have w2 : IntKind.i64.wrap ((i : Int) + 1) = ((i + 1 : Nat) : Int) := by rw [wrapS] <;> omega
      unfold S.skolemmake_Near.b0
      rw [hx.len]
      simp only [hd, cond_true, w2]
      rw [show ixA σ x 1 = ixA σ x Vw.int.sz from rfl, c1 (Hle.refl _), ld_i c2 c3]
      by_cases h : a < -1152921504606846976
      · rw [show decide (a < -1152921504606846976) = true from decide_eq_true h]
        exact .inr ⟨_, rfl, .inl rfl⟩
      · rw [show decide (a < -1152921504606846976) = false from decide_eq_false h]
        refine .inl ⟨_, rfl, rfl, fun j l hj hl => ?_⟩
        rcases Nat.lt_succ_iff_lt_or_eq.1 hj with hj | rfl
        · exact hI j l hj hl
        · rw [ha] at hl; cases hl; omega)
    (fun z hI => by
      obtain ⟨rfl, hI⟩ := hI
      refine ⟨.inl (), ?_, .inr ⟨rfl, fun l hl => ?_⟩⟩
      · unfold S.skolemmake_Near.b0
        have hd : decide ((xs.length : Int) < (xs.length : Int)) = false := by simp
        rw [hx.len, hd]; rfl
      · obtain ⟨j, hj, e⟩ := List.getElem_of_mem hl
        exact hI j l hj (by rw [List.getElem?_eq_getElem hj, e])) ⟨rfl, fun j l hj => by omega⟩
  rw [e1]
  rcases hr with rfl | ⟨rfl, h⟩
  · exact ⟨false, rfl, fun h => by cases h⟩
  · exact ⟨true, rfl, fun _ => h⟩
theorem nearAll_eq {σ : Heap} {xs : List (List Int)} {x : AVal} (hx : SlV vIs σ xs x) (hb : xs.length ≤ 4611686018427387904) (hs : ∀ c ∈ xs, c.length ≤ 4611686018427387904) : ∃ b, S.skolemmake_NearAll x σ = some b ∧ (b = true → ∀ c ∈ xs, ∀ l ∈ c, -1152921504606846976 ≤ l) := by
  unfold S.skolemmake_NearAll
  obtain ⟨r, e1, hr⟩ := loopP_inv (f := S.skolemmake_NearAll.b0 x σ) (x := (0 : Int)) xs.length (fun i z => z = (i : Int) ∧ ∀ j c, j < i → xs[j]? = some c → ∀ l ∈ c, -1152921504606846976 ≤ l) (fun r => r = .inr false ∨ (r = .inl () ∧ ∀ c ∈ xs, ∀ l ∈ c, -1152921504606846976 ≤ l))
    (fun i z hi hI => by
      obtain ⟨rfl, hI⟩ := hI
      obtain ⟨a, ha⟩ : ∃ a, xs[i]? = some a := ⟨_, List.getElem?_eq_getElem hi⟩
      obtain ⟨p, us, c2, ⟨u, rfl, c3⟩, c1⟩ := hx.ix ha
      have hd : decide ((i : Int) < (xs.length : Int)) = true := decide_eq_true (by omega)
      have w2 : IntKind.i64.wrap ((i : Int) + 1) = ((i + 1 : Nat) : Int) := by rw [wrapS] <;> omega
      obtain ⟨b, hb1, hb2⟩ := near_eq c3 (hs a (List.mem_of_getElem? ha))
      unfold S.skolemmake_NearAll.b0
      rw [hx.len]
      simp only [hd, cond_true, w2]
      rw [show ixA σ x 1 = ixA σ x vIs.sz from rfl, c1 (Hle.refl _), c2.ld]
      simp only [asK]
      rw [hb1]
      cases b with
      | false => exact .inr ⟨_, rfl, .inl rfl⟩
      | true =>
        refine .inl ⟨_, rfl, rfl, fun j c hj hc => ?_⟩
        rcases Nat.lt_succ_iff_lt_or_eq.1 hj with hj | rfl
        · exact hI j c hj hc
        · rw [ha] at hc; cases hc; exact hb2 rfl)
    (fun z hI => by
      obtain ⟨rfl, hI⟩ := hI
      refine ⟨.inl (), ?_, .inr ⟨rfl, fun c hc => ?_⟩⟩
      · unfold S.skolemmake_NearAll.b0
        have hd : decide ((xs.length : Int) < (xs.length : Int)) = false := by simp
        rw [hx.len, hd]; rfl
      · obtain ⟨j, hj, e⟩ := List.getElem_of_mem hc
        exact hI j c hj (by rw [List.getElem?_eq_getElem hj, e])) ⟨rfl, fun j c hj => by omega⟩
  rw [e1]
  rcases hr with rfl | ⟨rfl, h⟩
  · exact ⟨false, rfl, fun h => by cases h⟩
  · exact ⟨true, rfl, fun _ => h⟩
/-- Clauses are few: each is short enough, or the count is more than it may be. -/
theorem count_eq {σ : Heap} {xs : List (List Int)} {x : AVal} (hx : SlV vIs σ xs x) (hb : xs.length ≤ 60) (hs : ∀ c ∈ xs, c.length ≤ 4611686018427387904 / 64) : S.skolemmake_Count x σ = some ((xs.flatten.length : Nat) : Int) := by
  have hfl : ∀ (l : List (List Int)), (∀ c ∈ l, c.length ≤ 4611686018427387904 / 64) → l.flatten.length ≤ l.length * (4611686018427387904 / 64) := by
    intro l
    induction l with
    | nil => intro _; simp
    | cons c l ih => intro h; have := ih fun c hc => h c (List.mem_cons_of_mem _ hc); have := h c List.mem_cons_self; rw [List.flatten_cons, List.length_append, List.length_cons]; omega
  unfold S.skolemmake_Count
  obtain ⟨r, e1, rfl⟩ := loopP_inv (f := S.skolemmake_Count.b0 x σ) (x := ((0 : Int), (0 : Int))) xs.length (fun i z => z = ((((xs.take i).flatten.length : Nat) : Int), (i : Int))) (fun r => r = ((xs.flatten.length : Nat) : Int))
    (fun i z hi hI => by
      subst hI
      obtain ⟨a, ha⟩ : ∃ a, xs[i]? = some a := ⟨_, List.getElem?_eq_getElem hi⟩
      obtain ⟨p, us, c2, ⟨u, rfl, c3⟩, c1⟩ := hx.ix ha
      have hd : decide ((i : Int) < (xs.length : Int)) = true := decide_eq_true (by omega)
      have w2 : IntKind.i64.wrap ((i : Int) + 1) = ((i + 1 : Nat) : Int) := by rw [wrapS] <;> omega
      have h5 := hfl (xs.take (i + 1)) (fun c hc => hs c (List.mem_of_mem_take hc))
      have h6 : (xs.take (i + 1)).length ≤ 60 := Nat.le_trans (List.length_take_le' ..) hb
      have h7 : (xs.take (i + 1)).flatten.length ≤ 60 * (4611686018427387904 / 64) := Nat.le_trans h5 (Nat.mul_le_mul_right _ h6)
      have w3 : IntKind.i64.wrap ((((xs.take i).flatten.length : Nat) : Int) + (a.length : Int)) = (((xs.take (i + 1)).flatten.length : Nat) : Int) := by
        rw [take_succ_flat ha, List.length_append] at h7 ⊢
        rw [wrapS] <;> omega
      refine .inl ⟨_, ?_, rfl⟩
      unfold S.skolemmake_Count.b0
      rw [hx.len]
      simp only [hd, cond_true, w2]
      rw [show ixA σ x 1 = ixA σ x vIs.sz from rfl, c1 (Hle.refl _), c2.ld]
      simp only [asK]
      rw [c3.len, w3])
    (fun z hI => by
      subst hI
      rw [List.take_length]
      refine ⟨_, ?_, rfl⟩
      unfold S.skolemmake_Count.b0
      have hd : decide ((xs.length : Int) < (xs.length : Int)) = false := by simp
      rw [hx.len]; simp only [hd, cond_false]) (by simp)
  rw [e1]; rfl
end Go.Proofs.YtgneblbblihaoaaDoor.A

/- Literals, checked; the clauses of a formula, its blocks. -/
namespace Go.Proofs.YtgneblbblihaoaaDoor.A
open Go

theorem sk {n : Nat} (h : n < 9223372036854775807 := by omega) : IntKind.i64.wrap ((n : Int) + 1) = ((n + 1 : Nat) : Int) := by rw [wrapS] <;> omega

theorem upto {α : Type} {P : Nat → α → Prop} {xs : List α} {i : Nat} {z : α} (hI : ∀ j a, j < i → xs[j]? = some a → P j a) (hz : xs[i]? = some z) (hp : P i z) : ∀ j a, j < i + 1 → xs[j]? = some a → P j a := fun j a hj ha => by
  rcases Nat.lt_succ_iff_lt_or_eq.1 hj with hj | hj
  · exact hI j a hj ha
  · rw [hj] at ha ⊢; rw [hz] at ha; cases ha; exact hp
theorem upto0 {α : Type} {P : Nat → α → Prop} {xs : List α} : ∀ j a, j < 0 → xs[j]? = some a → P j a := fun j a hj => by omega

/-- Is it a literal? -/
def isL (l vars : Int) : Bool := decide (l ≠ 0) && decide (-vars ≤ l) && decide (l ≤ vars)
theorem isL_iff {l vars : Int} : isL l vars = true ↔ l ≠ 0 ∧ -vars ≤ l ∧ l ≤ vars := by simp [isL, and_assoc]
theorem litsIs_eq {σ : Heap} {l vars : Int} (h0 : -1000000000 ≤ vars) (h1 : vars ≤ 1000000000) : S.lits_Is l vars σ = some (isL l vars) := by
  unfold S.lits_Is isL
  have w : IntKind.i64.wrap (0 - vars) = -vars := by rw [wrapS] <;> omega
  rw [w]
  by_cases h : l = 0
  · subst h; rfl
  · have : (l != 0) = true := by simpa using h
    rw [this]
    by_cases h2 : -vars ≤ l
    · simp [h, h2]
    · simp [h, h2]
theorem refIs_eq {σ : Heap} {l vars : Int} (h0 : -1000000000 ≤ vars) (h1 : vars ≤ 1000000000) : S.skolemref1_Is l vars σ = some (isL l vars) := by
  unfold S.skolemref1_Is isL
  have w : IntKind.i64.wrap (0 - vars) = -vars := by rw [wrapS] <;> omega
  rw [w]
  by_cases h : l = 0
  · subst h; rfl
  · have : (l != 0) = true := by simpa using h
    rw [this]
    by_cases h2 : l ≤ vars
    · simp [h, h2]
    · simp [h, h2]

theorem indexFunc_w {σ : Heap} {xs : List Int} {x f : AVal} (p : Int → Bool) (hx : SlV .int σ xs x) (hb : xs.length ≤ 4611686018427387904)
    (hf : ∀ n ∈ xs, ∀ {Rt : Type} (K : AVal → Heap → Option Rt), callV S.slices_IndexFunc_int_int.T f [.int .i64 n] σ K = K (.bool (p n)) σ) :
    W (S.slices_IndexFunc_int_int x f σ) fun r => r.2 = σ ∧ r.1 = match xs.findIdx? p with
      | some k => (k : Int)
      | none => -1 := by
  unfold S.slices_IndexFunc_int_int
  repeat' (with_reducible (first | refine W.bind ?_ | refine W.len (by assumption) ?_))
  refine W.loop xs.length (fun i x τ => x = (i : Int) ∧ σ = τ ∧ ∀ j a, j < i → xs[j]? = some a → p a = false) ⟨rfl, rfl, fun j a hj => by omega⟩ fun i x τ hi hI => ?_
  obtain ⟨rfl, rfl, hI⟩ := hI
  unfold S.slices_IndexFunc_int_int.b0
  repeat' (first | (with_reducible (first | refine W.stop ?_ | refine W.ret ?_)) | (with_reducible refine W.cnd (fun hc => ?_) (fun hc => ?_) <;> (try simp only [q1, q2, q3, q4, q5, q6, q7, q8, q9, q10, q11, q12, q13, q14, q15, q16, q17, q18, q19, q20, q21, q22, q23, q24, q25, q26, q27, q28, q29, q30] at hc) <;> (try (exfalso; omega))))
  · refine W.ixIn hx (by omega) (by omega) fun a ha => ?_
    rw [Int.toNat_natCast] at ha
    refine W.to (hf a (List.mem_of_getElem? ha) _) ?_
    repeat' (first | (with_reducible (first | refine W.next ?_ | refine W.stop ?_ | refine W.ret ?_ | refine W.asB ?_)) | (with_reducible refine W.cnd (fun hc => ?_) (fun hc => ?_) <;> (try simp only [q1, q2, q3, q4, q5, q6, q7, q8, q9, q10, q11, q12, q13, q14, q15, q16, q17, q18, q19, q20, q21, q22, q23, q24, q25, q26, q27, q28, q29, q30] at hc) <;> (try (exfalso; omega))))
    · refine ⟨rfl, ?_⟩
      have : xs.findIdx? p = some i := by
        rw [List.findIdx?_eq_some_iff_getElem]
        obtain ⟨h1, h2⟩ := List.getElem?_eq_some_iff.1 ha
        refine ⟨h1, by rw [h2]; exact hc, fun j hj => ?_⟩
        have := hI j xs[j] hj (List.getElem?_eq_getElem _)
        simp [this]
      rw [this]
    · refine ⟨by omega, sk, rfl, upto (P := fun _ a => p a = false) hI ha hc⟩
  · refine ⟨rfl, ?_⟩
    have : xs.findIdx? p = none := by
      rw [List.findIdx?_eq_none_iff]
      intro a ha
      obtain ⟨j, hj, e⟩ := List.getElem_of_mem ha
      exact hI j a (by omega) (by rw [List.getElem?_eq_getElem hj, e])
    rw [this]
theorem containsFunc_w {σ : Heap} {xs : List Int} {x f : AVal} (p : Int → Bool) (hx : SlV .int σ xs x) (hb : xs.length ≤ 4611686018427387904)
    (hf : ∀ n ∈ xs, ∀ {Rt : Type} (K : AVal → Heap → Option Rt), callV S.slices_IndexFunc_int_int.T f [.int .i64 n] σ K = K (.bool (p n)) σ) :
    W (S.slices_ContainsFunc_int_int x f σ) fun r => r = (xs.any p, σ) := by
  unfold S.slices_ContainsFunc_int_int
  refine W.call (indexFunc_w p hx hb hf) fun r ⟨h1, h2⟩ => ?_
  obtain ⟨r, τ⟩ := r
  simp only at h1 h2; subst h1
  repeat' (with_reducible refine W.ret ?_)
  cases h : xs.findIdx? p with
  | none =>
    rw [h] at h2; simp only at h2; subst h2
    rw [List.findIdx?_eq_none_iff] at h
    have : xs.any p = false := by rw [List.any_eq_false]; intro a ha; simp [h a ha]
    rw [this]; rfl
  | some k =>
    rw [h] at h2; simp only at h2; subst h2
    rw [List.findIdx?_eq_some_iff_getElem] at h
    obtain ⟨h1, h2, _⟩ := h
    have : xs.any p = true := List.any_eq_true.2 ⟨_, List.getElem_mem h1, h2⟩
    rw [this]
    have : decide ((k : Int) ≥ 0) = true := by simp
    rw [this]

/-! ### Clauses -/
def badC (vars : Int) (c : List Int) : Bool := c.any fun l => !isL l vars
def chkC (vars : Int) (cs : List (List Int)) : Flt :=
  if vars < 0 ∨ vars > 4000 ∨ cs.length > 20000 ∨ cs.flatten.length > 80000 then some (.limit, none)
  else (cs.findIdx? (badC vars)).map fun k => (.range, some (k : Int))

theorem flat_take_le (zs : List (List Int)) (i : Nat) : (zs.take i).flatten.length ≤ zs.flatten.length := take_flat_le zs i
theorem flat_mem {zs : List (List Int)} {z : List Int} (h : z ∈ zs) : z.length ≤ zs.flatten.length := by
  obtain ⟨i, hi, e⟩ := List.getElem_of_mem h
  have h1 := flat_take_le zs (i + 1)
  rw [take_succ_flat (z := z) (by rw [List.getElem?_eq_getElem hi, e]), List.length_append] at h1
  omega

theorem findIdx_none {α : Type} {p : α → Bool} {xs : List α} {i : Nat} (h : ∀ j a, j < i → xs[j]? = some a → p a = false) (hi : xs.length ≤ i) : xs.findIdx? p = none := by
  rw [List.findIdx?_eq_none_iff]
  intro a ha
  obtain ⟨j, hj, e⟩ := List.getElem_of_mem ha
  exact h j a (by omega) (by rw [List.getElem?_eq_getElem hj, e])
theorem findIdx_some {α : Type} {p : α → Bool} {xs : List α} {i : Nat} {a : α} (h : ∀ j a, j < i → xs[j]? = some a → p a = false) (ha : xs[i]? = some a) (hp : p a = true) : xs.findIdx? p = some i := by
  rw [List.findIdx?_eq_some_iff_getElem]
  obtain ⟨h1, h2⟩ := List.getElem?_eq_some_iff.1 ha
  refine ⟨h1, by rw [h2]; exact hp, fun j hj => ?_⟩
  have := h j xs[j] hj (List.getElem?_eq_getElem _)
  simp [this]

/-- The count of all literals. -/
theorem litsCount_w {σ : Heap} {cs : List (List Int)} {p x : AVal} (hx : SlV vIs σ cs x) (hb : cs.flatten.length ≤ 1000000000) (hl : cs.length ≤ 1000000000) :
    W (loopP (S.lits_Check.b0 p x cs.length σ) (0, 0)) fun r => r = (cs.flatten.length : Int) := by
  refine W.loopP cs.length (fun i y => y = (((cs.take i).flatten.length : Int), (i : Int))) (by simp) fun i y hi hI => ?_
  subst hI
  unfold S.lits_Check.b0
  dsimp only
  repeat' (first | (with_reducible refine W.stopP ?_) | (with_reducible refine W.cnd (fun hc => ?_) (fun hc => ?_) <;> (try simp only [q1, q2, q3, q4, q5, q6, q7, q8, q9, q10, q11, q12, q13, q14, q15, q16, q17, q18, q19, q20, q21, q22, q23, q24, q25, q26, q27, q28, q29, q30] at hc) <;> (try (exfalso; omega))))
  · refine W.ixSn hx (by omega) (by omega) fun z w hz hw => ?_
    rw [Int.toNat_natCast] at hz
    repeat' (with_reducible (first | refine W.nextP ?_ | refine W.len (by assumption) ?_))
    have h1 := flat_take_le cs (i + 1)
    rw [take_succ_flat hz, List.length_append] at h1
    refine ⟨by omega, ?_⟩
    rw [take_succ_flat hz, List.length_append, sk]
    congr 1
    rw [wrapS] <;> omega
  · rw [List.take_of_length_le (by omega)]

theorem litsCheck_w {σ : Heap} {vars : Int} {cs : List (List Int)} {x : AVal} (hg : GlS [.limit, .range] σ) (hx : SlV vIs σ cs x) (hb : cs.flatten.length ≤ 1000000000) (hn : cs.length ≤ 1000000000) :
    W (S.lits_Check (.agg [.int .i64 vars, x]) σ) fun r => IsF r.2 r.1 (chkC vars cs) ∧ Hle σ r.2 := by
  unfold S.lits_Check
  repeat' (with_reducible refine W.aggK (by with_unfolding_all rfl) ?_)
  refine W.new fun l τ hl L h hnτ => ?_
  replace hg := hg.mono L
  replace hx := hx.mono L
  have hnx := L.next
  repeat' (with_reducible (first | refine W.bind ?_ | refine W.asV ?_ | refine W.len (by assumption) ?_ | refine W.ldL (by assumption) (by with_unfolding_all rfl) ?_))
  refine W.mono (litsCount_w hx hb hn) fun r hr => ?_
  subst hr
  by_cases hbad : vars < 0 ∨ vars > 4000 ∨ cs.length > 20000 ∨ cs.flatten.length > 80000
  · have e : chkC vars cs = some (.limit, none) := if_pos hbad
    rw [e]
    repeat' (first | (with_reducible (first | refine W.ret ?_ | refine W.bind ?_ | refine W.asI ?_ | refine W.asV ?_ | refine W.len (by assumption) ?_ | refine W.ldL (by assumption) (by with_unfolding_all rfl) ?_)) | (with_reducible refine W.condT ?_ ?_; focus (first | (simp only [q1, q2, q3, q4, q5, q6, q7, q8, q9, q10, q11, q12, q13, q14, q15, q16, q17, q18, q19, q20, q21, q22, q23, q24, q25, q26, q27, q28, q29, q30]; done) | (simp only [q1, q2, q3, q4, q5, q6, q7, q8, q9, q10, q11, q12, q13, q14, q15, q16, q17, q18, q19, q20, q21, q22, q23, q24, q25, q26, q27, q28, q29, q30]; omega) | assumption)) | (with_reducible refine W.cnd (fun hc => ?_) (fun hc => ?_) <;> (try simp only [q1, q2, q3, q4, q5, q6, q7, q8, q9, q10, q11, q12, q13, q14, q15, q16, q17, q18, q19, q20, q21, q22, q23, q24, q25, q26, q27, q28, q29, q30] at hc) <;> (try (exfalso; omega))))
    all_goals
      refine W.glob hg .limit fun v hv => ?_
      repeat' (with_reducible refine W.ret ?_)
      exact ⟨hv, L⟩
  · have e : chkC vars cs = (cs.findIdx? (badC vars)).map fun k => (.range, some (k : Int)) := if_neg hbad
    rw [e]
    repeat' (first | (with_reducible (first | refine W.ret ?_ | refine W.bind ?_ | refine W.asI ?_ | refine W.asV ?_ | refine W.len (by assumption) ?_ | refine W.ldL (by assumption) (by with_unfolding_all rfl) ?_)) | (with_reducible refine W.condF ?_ ?_; focus (first | (simp only [q1, q2, q3, q4, q5, q6, q7, q8, q9, q10, q11, q12, q13, q14, q15, q16, q17, q18, q19, q20, q21, q22, q23, q24, q25, q26, q27, q28, q29, q30]; done) | (simp only [q1, q2, q3, q4, q5, q6, q7, q8, q9, q10, q11, q12, q13, q14, q15, q16, q17, q18, q19, q20, q21, q22, q23, q24, q25, q26, q27, q28, q29, q30]; omega) | assumption)))
    refine W.loop cs.length (fun i x τ' => x = (i : Int) ∧ Hle τ τ' ∧ ∀ j a, j < i → cs[j]? = some a → badC vars a = false) ⟨rfl, Hle.refl _, upto0⟩ fun i x τ' hi hI => ?_
    obtain ⟨rfl, L', hI⟩ := hI
    unfold S.lits_Check.b1
    (with_reducible refine W.cnd (fun hc => ?_) (fun hc => ?_) <;> (try simp only [q1, q2, q3, q4, q5, q6, q7, q8, q9, q10, q11, q12, q13, q14, q15, q16, q17, q18, q19, q20, q21, q22, q23, q24, q25, q26, q27, q28, q29, q30] at hc) <;> (try (exfalso; omega)))
    · refine W.ixSnc (hx.mono L') (by omega) fun z w hz hw => ?_
      have hbz := flat_mem (List.mem_of_getElem? hz)
      refine W.call (containsFunc_w (fun n => !isL n vars) hw (by omega) fun n hn Rt K => ?_) fun r hr => ?_
      · have hcell := (h.mono L').at.cell (k := 0) rfl
        show ((S.lits_Check_1 n (.ptr l 0) τ').bind fun x => K (retV [.B] x) τ') = _
        unfold S.lits_Check_1
        simp only [fld, ld, hcell, asK, if_true, litsIs_eq (σ := τ') (l := n) (vars := vars) (by omega) (by omega), Option.bind_some]
        rfl
      subst hr
      (with_reducible refine W.cnd (fun hq => ?_) (fun hq => ?_) <;> (try simp only [q1, q2, q3, q4, q5, q6, q7, q8, q9, q10, q11, q12, q13, q14, q15, q16, q17, q18, q19, q20, q21, q22, q23, q24, q25, q26, q27, q28, q29, q30] at hq) <;> (try (exfalso; omega)))
      · refine W.glob (hg.mono L') .range fun v hv => W.escal hv ?_
        refine W.new fun k τ2 hk L2 hk hnτ2 => ?_
        repeat' (with_reducible (first | refine W.stop ?_ | refine W.ret ?_))
        rw [findIdx_some (p := badC vars) (i := i) hI hz hq]
        exact ⟨⟨k, v, rfl, hk.at, hv.mono L2⟩, (L.mono L').mono L2⟩
      · repeat' (with_reducible refine W.next ?_)
        exact ⟨by omega, sk, L', upto (P := fun _ a => badC vars a = false) hI hz hq⟩
    · repeat' (with_reducible (first | refine W.stop ?_ | refine W.ret ?_))
      rw [findIdx_none (p := badC vars) (i := i) hI (by omega)]
      exact ⟨rfl, L.mono L'⟩
end Go.Proofs.YtgneblbblihaoaaDoor.A

/- Formulas, checked: the program's way, the reference's way. -/
namespace Go.Proofs.YtgneblbblihaoaaDoor.A
open Go

theorem drop_at {α : Type} {xs : List α} {i : Nat} {z : α} (h : xs[i]? = some z) : xs.drop i = z :: xs.drop (i + 1) := by
  obtain ⟨h1, h2⟩ := List.getElem?_eq_some_iff.1 h
  rw [List.drop_eq_getElem_cons h1, h2]

theorem refCount_w {σ : Heap} {vars : Int} {cs : List (List Int)} {p x : AVal} {l : Nat} (h : Loc σ l [.int .i64 vars, x]) (hx : SlV vIs σ cs x) (hb : cs.flatten.length ≤ 1000000000) (hn : cs.length ≤ 1000000000) :
    W (loopP (S.skolemref1_CheckCNF.b0 (.ptr l 0) p σ) (0, 0)) fun r => r = (cs.flatten.length : Int) := by
  refine W.loopP cs.length (fun i y => y = (((cs.take i).flatten.length : Int), (i : Int))) (by simp) fun i y hi hI => ?_
  subst hI
  unfold S.skolemref1_CheckCNF.b0
  dsimp only
  repeat' (first | (with_reducible (first | refine W.stopP ?_ | refine W.asV ?_ | refine W.fldp ?_ | refine W.len (by assumption) ?_ | refine W.ldL (by assumption) (by with_unfolding_all rfl) ?_)) | (with_reducible refine W.cnd (fun hc => ?_) (fun hc => ?_) <;> (try simp only [q1, q2, q3, q4, q5, q6, q7, q8, q9, q10, q11, q12, q13, q14, q15, q16, q17, q18, q19, q20, q21, q22, q23, q24, q25, q26, q27, q28, q29, q30] at hc) <;> (try (exfalso; omega))))
  · refine W.ixSnc hx (by omega) fun z w hz hw => ?_
    repeat' (with_reducible (first | refine W.nextP ?_ | refine W.len (by assumption) ?_))
    have h1 := flat_take_le cs (i + 1)
    rw [take_succ_flat hz, List.length_append] at h1
    refine ⟨by omega, ?_⟩
    rw [take_succ_flat hz, List.length_append, sk]
    congr 1
    rw [wrapS] <;> omega
  · rw [List.take_of_length_le (by omega)]

theorem refCheckCNF_w {σ : Heap} {vars : Int} {cs : List (List Int)} {x : AVal} (hx : SlV vIs σ cs x) (hb : cs.flatten.length ≤ 1000000000) (hn : cs.length ≤ 1000000000) :
    W (S.skolemref1_CheckCNF (.agg [.int .i64 vars, x]) σ) fun r => r.1 = .agg (fcells (chkC vars cs)) ∧ Hle σ r.2 := by
  unfold S.skolemref1_CheckCNF
  repeat' (with_reducible refine W.aggK (by with_unfolding_all rfl) ?_)
  refine W.new fun l τ hl L h hnτ => ?_
  refine W.new fun l2 τ2 hl2 L2 h2 hnτ2 => ?_
  replace h := h.mono L2
  replace L := L.mono L2
  have hnx := L2.next
  replace hx := hx.mono L
  have hnx := L.next
  refine W.call (refCount_w h hx hb hn) fun r hr => ?_
  subst hr
  by_cases hbad : vars < 0 ∨ vars > 4000 ∨ cs.length > 20000 ∨ cs.flatten.length > 80000
  · have e : chkC vars cs = some (.limit, none) := if_pos hbad
    rw [e]
    repeat' (first | (with_reducible (first | refine W.ret ?_ | refine W.bind ?_ | refine W.asI ?_ | refine W.asV ?_ | refine W.len (by assumption) ?_ | refine W.ldL (by assumption) (by with_unfolding_all rfl) ?_)) | (with_reducible refine W.condT ?_ ?_; focus (first | (simp only [q1, q2, q3, q4, q5, q6, q7, q8, q9, q10, q11, q12, q13, q14, q15, q16, q17, q18, q19, q20, q21, q22, q23, q24, q25, q26, q27, q28, q29, q30]; done) | (simp only [q1, q2, q3, q4, q5, q6, q7, q8, q9, q10, q11, q12, q13, q14, q15, q16, q17, q18, q19, q20, q21, q22, q23, q24, q25, q26, q27, q28, q29, q30]; omega) | assumption)) | (with_reducible refine W.cnd (fun hc => ?_) (fun hc => ?_) <;> (try simp only [q1, q2, q3, q4, q5, q6, q7, q8, q9, q10, q11, q12, q13, q14, q15, q16, q17, q18, q19, q20, q21, q22, q23, q24, q25, q26, q27, q28, q29, q30] at hc) <;> (try (exfalso; omega))))
    all_goals
      refine W.mono bare_w fun r hr => ?_
      obtain ⟨r, τ3⟩ := r; obtain ⟨hr, L3⟩ := hr; dsimp only at hr L3 ⊢; subst hr
      replace h2 := h2.mono L3
      replace L := L.mono L3
      have hnx := L3.next
      repeat' (with_reducible refine W.aggK (by with_unfolding_all rfl) ?_)
      refine W.st0 h2 (by rfl) fun τ4 L4 hnτ4 h2 => ?_
      repeat' (with_reducible (first | refine W.ret ?_ | refine W.ldGL (by assumption) (Nat.le_of_ble_eq_true (by with_unfolding_all rfl)) ?_))
      exact ⟨rfl, L.ofk (by omega) L4⟩
  · have e : chkC vars cs = (cs.findIdx? (badC vars)).map fun k => (.range, some (k : Int)) := if_neg hbad
    rw [e]
    repeat' (first | (with_reducible (first | refine W.ret ?_ | refine W.bind ?_ | refine W.asI ?_ | refine W.asV ?_ | refine W.len (by assumption) ?_ | refine W.ldL (by assumption) (by with_unfolding_all rfl) ?_)) | (with_reducible refine W.condF ?_ ?_; focus (first | (simp only [q1, q2, q3, q4, q5, q6, q7, q8, q9, q10, q11, q12, q13, q14, q15, q16, q17, q18, q19, q20, q21, q22, q23, q24, q25, q26, q27, q28, q29, q30]; done) | (simp only [q1, q2, q3, q4, q5, q6, q7, q8, q9, q10, q11, q12, q13, q14, q15, q16, q17, q18, q19, q20, q21, q22, q23, q24, q25, q26, q27, q28, q29, q30]; omega) | assumption)))
    refine W.loop cs.length (fun i x τ' => x = (i : Int) ∧ τ2 = τ' ∧ ∀ j a, j < i → cs[j]? = some a → badC vars a = false) ⟨rfl, rfl, upto0⟩ fun i x τ' hi hI => ?_
    obtain ⟨rfl, rfl, hI⟩ := hI
    unfold S.skolemref1_CheckCNF.b2
    repeat' (first | (with_reducible (first | refine W.stop ?_ | refine W.bind ?_ | refine W.asV ?_ | refine W.fldp ?_ | refine W.len (by assumption) ?_ | refine W.ldL (by assumption) (by with_unfolding_all rfl) ?_)) | (with_reducible refine W.cnd (fun hc => ?_) (fun hc => ?_) <;> (try simp only [q1, q2, q3, q4, q5, q6, q7, q8, q9, q10, q11, q12, q13, q14, q15, q16, q17, q18, q19, q20, q21, q22, q23, q24, q25, q26, q27, q28, q29, q30] at hc) <;> (try (exfalso; omega))))
    · obtain ⟨z, hz⟩ : ∃ z, cs[i]? = some z := ⟨_, List.getElem?_eq_getElem (by omega)⟩
      have hbz := flat_mem (List.mem_of_getElem? hz)
      have key : W (loopW (S.skolemref1_CheckCNF.b1 (.ptr l 0) (.ptr l2 0) (i : Int)) 0 τ2) fun r => (r = (.inl (), τ2) ∧ badC vars z = false) ∨ ((∃ u, r.1 = .inr u) ∧ badC vars z = true ∧ Hle (τ2.kill l2) r.2 ∧ Loc r.2 l2 (fcells (some (.range, some (i : Int))))) := by
        refine W.loop z.length (fun k x τ' => x = (k : Int) ∧ τ2 = τ' ∧ ∀ j a, j < k → z[j]? = some a → isL a vars = true) ⟨rfl, rfl, upto0⟩ fun k x τ' hk hJ => ?_
        obtain ⟨rfl, rfl, hJ⟩ := hJ
        unfold S.skolemref1_CheckCNF.b1
        repeat' (with_reducible (first | refine W.asV ?_ | refine W.fldp ?_ | refine W.ldL (by assumption) (by with_unfolding_all rfl) ?_))
        refine W.ixSc hx hz fun w hw => ?_
        repeat' (first | (with_reducible (first | refine W.stop ?_ | refine W.asV ?_ | refine W.fldp ?_ | refine W.len (by assumption) ?_ | refine W.ldL (by assumption) (by with_unfolding_all rfl) ?_)) | (with_reducible refine W.cnd (fun hc => ?_) (fun hc => ?_) <;> (try simp only [q1, q2, q3, q4, q5, q6, q7, q8, q9, q10, q11, q12, q13, q14, q15, q16, q17, q18, q19, q20, q21, q22, q23, q24, q25, q26, q27, q28, q29, q30] at hc) <;> (try (exfalso; omega))))
        · refine W.ixSc hx hz fun w hw => ?_
          refine W.ixInc hw (by omega) fun n hn => ?_
          repeat' (with_reducible (first | refine W.bind ?_ | refine W.asI ?_ | refine W.fldp ?_ | refine W.ldL (by assumption) (by with_unfolding_all rfl) ?_))
          refine W.to (refIs_eq (by omega) (by omega)) ?_
          repeat' (with_reducible refine W.ret ?_)
          (with_reducible refine W.cnd (fun hq => ?_) (fun hq => ?_) <;> (try simp only [q1, q2, q3, q4, q5, q6, q7, q8, q9, q10, q11, q12, q13, q14, q15, q16, q17, q18, q19, q20, q21, q22, q23, q24, q25, q26, q27, q28, q29, q30] at hq) <;> (try (exfalso; omega)))
          · refine W.call (placed_w (by decide)) fun r hr => ?_
            obtain ⟨r, τ3⟩ := r; obtain ⟨hr, L3⟩ := hr; dsimp only at hr L3 ⊢; subst hr
            replace h2 := h2.mono L3
            have hnx := L3.next
            repeat' (with_reducible refine W.aggK (by with_unfolding_all rfl) ?_)
            refine W.st0 h2 (by rfl) fun τ4 L4 hnτ4 h2 => ?_
            repeat' (with_reducible refine W.stop ?_)
            refine .inr ⟨⟨_, rfl⟩, ?_, (L3.killed l2).mono L4, h2⟩
            exact List.any_eq_true.2 ⟨n, List.mem_of_getElem? hn, by simp [hq]⟩
          · repeat' (with_reducible refine W.next ?_)
            exact ⟨by omega, sk, rfl, upto (P := fun _ a => isL a vars = true) hJ hn hq⟩
        · refine .inl ⟨rfl, ?_⟩
          refine List.any_eq_false.2 fun a ha => ?_
          obtain ⟨j, hj, e⟩ := List.getElem_of_mem ha
          simp [hJ j a (by omega) (by rw [List.getElem?_eq_getElem hj, e])]
      refine W.mono key fun r hr => ?_
      obtain ⟨r, τ3⟩ := r
      rcases hr with ⟨hr, hq⟩ | ⟨⟨u, hr⟩, hq, L3, h3⟩
      · cases hr
        repeat' (with_reducible refine W.next ?_)
        exact ⟨by omega, sk, rfl, upto (P := fun _ a => badC vars a = false) hI hz hq⟩
      · simp only at hr; subst hr
        repeat' (with_reducible (first | refine W.stop ?_ | refine W.ret ?_ | refine W.ldGL (by assumption) (Nat.le_of_ble_eq_true (by with_unfolding_all rfl)) ?_))
        rw [findIdx_some (p := badC vars) (i := i) hI hz hq]
        exact ⟨rfl, L.ofk (by omega) L3⟩
    · refine W.mono none_w fun r hr => ?_
      obtain ⟨r, τ3⟩ := r; obtain ⟨hr, L3⟩ := hr; dsimp only at hr L3 ⊢; subst hr
      replace h2 := h2.mono L3
      have hnx := L3.next
      repeat' (with_reducible refine W.aggK (by with_unfolding_all rfl) ?_)
      refine W.st0 h2 (by rfl) fun τ4 L4 hnτ4 h2 => ?_
      repeat' (with_reducible (first | refine W.ret ?_ | refine W.ldGL (by assumption) (Nat.le_of_ble_eq_true (by with_unfolding_all rfl)) ?_))
      rw [findIdx_none (p := badC vars) (i := i) hI (by omega)]
      exact ⟨rfl, L.ofk (by omega) ((L3.killed l2).mono L4)⟩

theorem has_eq {σ : Heap} {xs : List Int} {x : AVal} {n : Int} (hx : SlV .int σ xs x) (hb : xs.length ≤ 4611686018427387904) : S.skolemref_Has x n σ = some (decide (n ∈ xs)) := by
  obtain ⟨r, e, rfl⟩ : W (S.skolemref_Has x n σ) fun r => r = decide (n ∈ xs) := by
    unfold S.skolemref_Has
    repeat' (with_reducible refine W.bind ?_)
    refine W.loopP xs.length (fun i y => y = (i : Int) ∧ ∀ j a, j < i → xs[j]? = some a → a ≠ n) ⟨rfl, upto0⟩ fun i y hi hI => ?_
    obtain ⟨rfl, hI⟩ := hI
    unfold S.skolemref_Has.b0
    repeat' (first | (with_reducible (first | refine W.stopP ?_ | refine W.ret ?_ | refine W.len (by assumption) ?_)) | (with_reducible refine W.cnd (fun hc => ?_) (fun hc => ?_) <;> (try simp only [q1, q2, q3, q4, q5, q6, q7, q8, q9, q10, q11, q12, q13, q14, q15, q16, q17, q18, q19, q20, q21, q22, q23, q24, q25, q26, q27, q28, q29, q30] at hc) <;> (try (exfalso; omega))))
    · refine W.ixInc hx (by omega) fun a ha => ?_
      (with_reducible refine W.cnd (fun hq => ?_) (fun hq => ?_) <;> (try simp only [q1, q2, q3, q4, q5, q6, q7, q8, q9, q10, q11, q12, q13, q14, q15, q16, q17, q18, q19, q20, q21, q22, q23, q24, q25, q26, q27, q28, q29, q30] at hq) <;> (try (exfalso; omega)))
      · repeat' (with_reducible (first | refine W.stopP ?_ | refine W.ret ?_))
        subst hq
        simp [List.mem_of_getElem? ha]
      · repeat' (with_reducible refine W.nextP ?_)
        exact ⟨by omega, sk, upto (P := fun _ a => a ≠ n) hI ha hq⟩
    · have : n ∉ xs := fun hm => by
        obtain ⟨j, hj, e⟩ := List.getElem_of_mem hm
        exact hI j n (by omega) (by rw [List.getElem?_eq_getElem hj, e]) rfl
      simp [this]
  exact e

/-! ### Blocks -/
def stepV (vars : Int) (seen : List Int) (v : Int) : Option (List Int) := if v < 1 ∨ v > vars ∨ v ∈ seen then none else some (seen ++ [v])
def scanV (vars : Int) : List Int → List Int → Option (List Int)
  | seen, [] => some seen
  | seen, v :: vs => if v < 1 ∨ v > vars ∨ v ∈ seen then none else scanV vars (seen ++ [v]) vs
def chkB (vars : Int) : Nat → List Int → List (Bool × List Int) → Flt
  | _, _, [] => none
  | k, seen, b :: bs => match scanV vars seen b.2 with
    | none => some (.range, some (k : Int))
    | some s => chkB vars (k + 1) s bs
def chkF (bs : List (Bool × List Int)) (vars : Int) (cs : List (List Int)) : Flt := match chkC vars cs with
  | some f => some f
  | none => chkB vars 0 [] bs

def SeenM (ps : List (Int × AVal)) (seen : List Int) : Prop := ∀ v, (look ps v).getD (.bool false) = .bool (decide (v ∈ seen))
theorem SeenM.put {ps qs : List (Int × AVal)} {seen : List Int} (h : SeenM ps seen) {n : Int} (hq : ∀ k, look qs k = if k = n then some (.bool true) else look ps k) : SeenM qs (seen ++ [n]) := fun v => by
  rw [hq]
  by_cases hv : v = n
  · subst hv; simp
  · rw [if_neg hv, h v]; simp [hv]

theorem W.mgetZ {R : Type} {σ : Heap} {l : Nat} {ps : List (Int × AVal)} (h : MapV σ l ps) {n : Int} {z : AVal} {K : AVal → Bool → Option R} {Q : R → Prop} (c : W (K ((look ps n).getD z) (look ps n).isSome) Q) : W (A.mgetZ σ (.map l) .i64 n z K) Q := W.to (h.mgetZ z K) c
theorem W.mput {R : Type} {σ : Heap} {l : Nat} {ps : List (Int × AVal)} (h : MapV σ l ps) {n : Int} {x : AVal} {K : Heap → Option R} {Q : R → Prop}
    (c : ∀ τ qs, MapV τ l qs → (∀ k, look qs k = if k = n then some x else look ps k) → Hle (σ.kill l) τ → τ.next = σ.next → W (K τ) Q) : W (mputK σ (.map l) .i64 n x K) Q := by
  obtain ⟨qs, h1, h2, h3, _⟩ := h.mput n x
  exact W.to (h1 K) (c _ qs h2 h3 (Hle.kill_set ..) rfl)
theorem W.newM {R : Type} {σ : Heap} {K : Nat → Heap → Option R} {Q : R → Prop} (c : ∀ l τ, l = σ.next → Hle σ τ → MapV τ l [] → τ.next = σ.next + 1 → W (K l τ) Q) : W (A.newM σ K) Q :=
  c _ _ rfl ((Hle.refl σ).new _) (MapV.new σ) rfl

theorem MapV.kill {σ : Heap} {l k : Nat} {ps : List (Int × AVal)} (h : MapV σ l ps) (hk : l ≠ k) : MapV (σ.kill k) l ps := ⟨h.lt, by rw [hkill_get, if_neg hk]; exact h.get, h.nodup⟩
theorem scanV_w {σ0 : Heap} {vars : Int} {vs : List Int} {k l : Nat} {c x q : AVal} {lf : Nat} (hg : GlS [.limit, .range] σ0) (hf : Loc σ0 lf [c, .int .i64 vars, q]) (hx : SlV .int σ0 vs x) (hb : vs.length ≤ 1000000000)
    {σ : Heap} (L : Hle σ0 σ) (hl : σ0.next ≤ l) {ps : List (Int × AVal)} (hm : MapV σ l ps) {seen : List Int} (hs : SeenM ps seen) {a : AVal} {d : Int} :
    W (loopW (S.qdimacs_Check.b0 (.ptr lf 0) (.map l) (k : Int) a d x (vs.length : Int)) 0 σ) fun r => Hle σ0 r.2 ∧ match scanV vars seen vs with
      | none => ∃ v, r.1 = .inr v ∧ IsF r.2 v (some (.range, some (k : Int)))
      | some s => r.1 = .inl () ∧ ∃ qs, MapV r.2 l qs ∧ SeenM qs s := by
  refine W.loop vs.length (fun i y τ => y = (i : Int) ∧ Hle σ0 τ ∧ ∃ qs s, MapV τ l qs ∧ SeenM qs s ∧ scanV vars seen vs = scanV vars s (vs.drop i)) ⟨rfl, L, ps, seen, hm, hs, by simp⟩ fun i y τ hi hI => ?_
  obtain ⟨rfl, L, qs, s, hm, hs, e⟩ := hI
  rw [e]
  have hf' := hf.mono L
  unfold S.qdimacs_Check.b0
  (with_reducible refine W.cnd (fun hc => ?_) (fun hc => ?_) <;> (try simp only [q1, q2, q3, q4, q5, q6, q7, q8, q9, q10, q11, q12, q13, q14, q15, q16, q17, q18, q19, q20, q21, q22, q23, q24, q25, q26, q27, q28, q29, q30] at hc) <;> (try (exfalso; omega)))
  · refine W.ixInc (hx.mono L) (by omega) fun v hv => ?_
    rw [drop_at hv, scanV] at e ⊢
    have hbad : W ((cond (decide (v < 1)) (some (true, τ)) (fld (.ptr lf 0) 1 fun a36 => fld a36 0 fun a37 => ld τ a37 (.I .i64) fun n38 => cond (decide (v > n38)) (some (true, τ)) (mgetZ τ (.map l) .i64 v (.bool false) fun x39 b40 => asK (.B) x39 fun b41 => some (b41, τ))))) fun r => r = (decide (v < 1 ∨ v > vars ∨ v ∈ s), τ) := by
      repeat' (first | (with_reducible (first | refine W.ret ?_ | refine W.asI ?_ | refine W.fldp ?_ | refine W.ldL (by assumption) (by with_unfolding_all rfl) ?_)) | (with_reducible refine W.cnd (fun hc => ?_) (fun hc => ?_) <;> (try simp only [q1, q2, q3, q4, q5, q6, q7, q8, q9, q10, q11, q12, q13, q14, q15, q16, q17, q18, q19, q20, q21, q22, q23, q24, q25, q26, q27, q28, q29, q30] at hc) <;> (try (exfalso; omega))))
      · simp [*]
      · simp [*]
      · refine W.mgetZ hm ?_
        rw [hs v]
        repeat' (with_reducible (first | refine W.ret ?_ | refine W.asB ?_))
        have : ¬ v < 1 := by omega
        have : ¬ v > vars := by omega
        simp [*]
    refine W.call hbad fun r hr => ?_
    subst hr
    (with_reducible refine W.cnd (fun hq => ?_) (fun hq => ?_) <;> (try simp only [q1, q2, q3, q4, q5, q6, q7, q8, q9, q10, q11, q12, q13, q14, q15, q16, q17, q18, q19, q20, q21, q22, q23, q24, q25, q26, q27, q28, q29, q30] at hq) <;> (try (exfalso; omega)))
    · refine W.glob (hg.mono L) .range fun u hu => W.escal hu ?_
      refine W.new fun j τ2 hj L2 hj hnτ2 => ?_
      repeat' (with_reducible refine W.stop ?_)
      rw [if_pos hq]
      exact ⟨L.mono L2, _, rfl, j, u, rfl, hj.at, hu.mono L2⟩
    · refine W.mput hm fun τ2 qs2 hm2 hq2 L2 hn2 => ?_
      repeat' (with_reducible refine W.next ?_)
      rw [if_neg hq]
      exact ⟨by omega, sk, L.ofk hl L2, qs2, _, hm2, hs.put hq2, rfl⟩
  · repeat' (with_reducible refine W.stop ?_)
    rw [List.drop_eq_nil_of_le (by omega), scanV]
    exact ⟨L, rfl, qs, hm, hs⟩

theorem qCheck_w {σ : Heap} {vars : Int} {bs : List (Bool × List Int)} {cs : List (List Int)} {xb xc : AVal} (hg : GlS [.limit, .range] σ) (hb : SlV vB σ bs xb) (hc : SlV vIs σ cs xc) (h1 : cs.flatten.length ≤ 1000000000) (h2 : cs.length ≤ 1000000000) (h3 : bs.length ≤ 1000000000)
    (h4 : ∀ b ∈ bs, b.2.length ≤ 1000000000) : W (S.qdimacs_Check (.agg [xb, .int .i64 vars, xc]) σ) fun r => IsF r.2 r.1 (chkF bs vars cs) ∧ Hle σ r.2 := by
  unfold S.qdimacs_Check
  repeat' (with_reducible refine W.aggK (by with_unfolding_all rfl) ?_)
  refine W.new fun lf τ hlf L h hnτ => ?_
  replace hg := hg.mono L
  replace hb := hb.mono L
  replace hc := hc.mono L
  have hnx := L.next
  repeat' (with_reducible (first | refine W.bind ?_ | refine W.ldGL (by assumption) (Nat.le_of_ble_eq_true (by with_unfolding_all rfl)) ?_))
  refine W.mono (litsCheck_w (vars := vars) hg hc h1 h2) fun r hr => ?_
  obtain ⟨r, τ2⟩ := r
  obtain ⟨hr, L2⟩ := hr
  simp only at hr L2
  replace hg := hg.mono L2
  replace hb := hb.mono L2
  replace hc := hc.mono L2
  replace h := h.mono L2
  replace L := L.mono L2
  have hnx := L2.next
  refine W.fnil hr ?_
  unfold chkF
  cases hq : chkC vars cs with
  | some f =>
    rw [hq] at hr
    repeat' (first | (with_reducible refine W.ret ?_) | (with_reducible refine W.condT ?_ ?_; focus (first | (simp only [q1, q2, q3, q4, q5, q6, q7, q8, q9, q10, q11, q12, q13, q14, q15, q16, q17, q18, q19, q20, q21, q22, q23, q24, q25, q26, q27, q28, q29, q30]; done) | (simp only [q1, q2, q3, q4, q5, q6, q7, q8, q9, q10, q11, q12, q13, q14, q15, q16, q17, q18, q19, q20, q21, q22, q23, q24, q25, q26, q27, q28, q29, q30]; omega) | assumption)))
    exact ⟨hr, L⟩
  | none =>
    simp only []
    repeat' (with_reducible refine W.condF ?_ ?_; focus (first | (simp only [q1, q2, q3, q4, q5, q6, q7, q8, q9, q10, q11, q12, q13, q14, q15, q16, q17, q18, q19, q20, q21, q22, q23, q24, q25, q26, q27, q28, q29, q30]; done) | (simp only [q1, q2, q3, q4, q5, q6, q7, q8, q9, q10, q11, q12, q13, q14, q15, q16, q17, q18, q19, q20, q21, q22, q23, q24, q25, q26, q27, q28, q29, q30]; omega) | assumption))
    refine W.newM fun l τ3 hl L3 hm hn3 => ?_
    have h' := h.mono L3
    have hb' := hb.mono L3
    repeat' (with_reducible (first | refine W.bind ?_ | refine W.asV ?_ | refine W.len (by assumption) ?_ | refine W.ldL (by assumption) (by with_unfolding_all rfl) ?_))
    refine W.loop bs.length (fun i y τ => y = (i : Int) ∧ Hle τ2 τ ∧ ∃ qs s, MapV τ l qs ∧ SeenM qs s ∧ chkB vars 0 [] bs = chkB vars i s (bs.drop i)) ⟨rfl, L3, [], [], hm, fun v => rfl, by simp⟩ fun i y τ hi hI => ?_
    obtain ⟨rfl, L', qs, s, hm', hs, e⟩ := hI
    rw [e]
    unfold S.qdimacs_Check.b1
    (with_reducible refine W.cnd (fun hc => ?_) (fun hc => ?_) <;> (try simp only [q1, q2, q3, q4, q5, q6, q7, q8, q9, q10, q11, q12, q13, q14, q15, q16, q17, q18, q19, q20, q21, q22, q23, q24, q25, q26, q27, q28, q29, q30] at hc) <;> (try (exfalso; omega)))
    · refine W.ixL hb L' (by omega) fun p us b hbi hp hr => ?_
      obtain ⟨x, rfl, hx⟩ := vB_rel hr
      have hp' := hp.mono L'
      repeat' (with_reducible refine W.ldGG (by assumption) (by with_unfolding_all rfl) ?_)
      refine W.new fun j τ4 hj L4 hj hnτ4 => ?_
      repeat' (with_reducible refine W.aggK (by with_unfolding_all rfl) ?_)
      refine W.st0 hj (by rfl) fun τ5 L5 hnτ5 hj => ?_
      have L45 : Hle τ τ5 := L4.ofk (by omega) L5
      replace L' := L'.mono L45
      have hnx := L45.next
      have hlt := hm'.lt
      have hm5 := ((hm'.mono L4).kill (k := j) (by omega)).mono L5
      have hx' := hx.mono L'
      repeat' (with_reducible (first | refine W.bind ?_ | refine W.asV ?_ | refine W.len (by assumption) ?_ | refine W.ldL (by assumption) (by with_unfolding_all rfl) ?_))
      refine W.mono (scanV_w (vars := vars) hg h hx (h4 _ (List.mem_of_getElem? hbi)) L' (by omega) hm5 hs) fun r hr => ?_
      obtain ⟨r, τ6⟩ := r
      obtain ⟨L6, hr⟩ := hr
      rw [drop_at hbi, chkB]
      cases hsc : scanV vars s b.2 with
      | none =>
        rw [hsc] at hr
        obtain ⟨v, hv, hF⟩ := hr
        simp only at hv hF; subst hv
        repeat' (with_reducible (first | refine W.stop ?_ | refine W.ret ?_))
        exact ⟨hF, L.mono L6⟩
      | some s' =>
        rw [hsc] at hr
        obtain ⟨hv, qs', hm6, hs6⟩ := hr
        simp only at hv hm6; subst hv
        repeat' (with_reducible refine W.next ?_)
        exact ⟨by omega, sk, L6, qs', s', hm6, hs6, rfl⟩
    · repeat' (with_reducible (first | refine W.stop ?_ | refine W.ret ?_))
      rw [List.drop_eq_nil_of_le (by omega), chkB]
      exact ⟨rfl, L.mono L'⟩

end Go.Proofs.YtgneblbblihaoaaDoor.A
