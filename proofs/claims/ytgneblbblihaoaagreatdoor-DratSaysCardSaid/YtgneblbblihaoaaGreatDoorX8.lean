/- Parts of the proof, one behind another. -/
import Derived.Test.YtgneblbblihaoaaGreatDoorX1
import Derived.Test.YtgneblbblihaoaaGreatDoorX0
import Derived.Test.YtgneblbblihaoaaGreatDoorX7
import Derived.Test.YtgneblbblihaoaaGreatDoorX5
set_option linter.all false
/- Views of abstract heaps: lists behind slices; what was there stays. -/
namespace Go.Proofs.YtgneblbblihaoaaGreatDoor.A
open Go
theorem wrapS {n : Int} (h0 : -9223372036854775808 ≤ n) (h1 : n < 9223372036854775808) : IntKind.i64.wrap n = n := by
  rw [IntKind.wrap_i64]; omega

theorem hnew_get (σ : Heap) (o : AObj) (k : Nat) : (σ.new o).get k = if k = σ.next then some o else σ.get k := rfl
theorem hkill_get (σ : Heap) (l k : Nat) : (σ.kill l).get k = if k = l then none else σ.get k := rfl
theorem hset_get (σ : Heap) (l k : Nat) (o : AObj) : (σ.set l o).get k = if k = l then some o else σ.get k := rfl
/-- What was there is there, unchanged. -/
structure Hle (σ τ : Heap) : Prop where
  next : σ.next ≤ τ.next
  get : ∀ l o, l < σ.next → σ.get l = some o → τ.get l = some o
section
variable {σ τ υ : Heap} {l : Nat} {o : AObj}
theorem Hle.refl (σ : Heap) : Hle σ σ := ⟨Nat.le_refl _, fun _ _ _ h => h⟩
theorem Hle.trans (h : Hle σ τ) (k : Hle τ υ) : Hle σ υ := ⟨Nat.le_trans h.next k.next, fun l o hl hg => k.get l o (Nat.lt_of_lt_of_le hl h.next) (h.get l o hl hg)⟩
theorem Hle.new (h : Hle σ τ) (o : AObj) : Hle σ (τ.new o) := ⟨Nat.le_succ_of_le h.next, fun l x hl hg => by
  have := h.next
  simp only [Heap.new]; rw [if_neg (by omega)]; exact h.get l x hl hg⟩
theorem Hle.set (h : Hle σ τ) (hl : σ.next ≤ l) (o : AObj) : Hle σ (τ.set l o) := ⟨h.next, fun k x hk hg => by
  simp only [Heap.set]; rw [if_neg (by omega)]; exact h.get k x hk hg⟩
theorem Hle.kill (h : Hle σ τ) (hl : σ.next ≤ l) : Hle σ (τ.kill l) := ⟨h.next, fun k x hk hg => by
  simp only [Heap.kill]; rw [if_neg (by omega)]; exact h.get k x hk hg⟩
theorem Hle.of_kill (σ : Heap) (l : Nat) : Hle (σ.kill l) σ := ⟨Nat.le_refl _, fun k x _ hg => by
  simp only [Heap.kill] at hg; split at hg
  · cases hg
  · exact hg⟩
theorem Hle.kill_set (σ : Heap) (l : Nat) (o : AObj) : Hle (σ.kill l) (σ.set l o) := ⟨Nat.le_refl _, fun k x _ hg => by
  simp only [Heap.kill] at hg; split at hg
  · cases hg
  · rename_i h; simp only [Heap.set]; rw [if_neg h]; exact hg⟩
theorem Hle.killed (h : Hle σ τ) (l : Nat) : Hle (σ.kill l) (τ.kill l) := ⟨h.next, fun k x hk hg => by
  simp only [Heap.kill] at hg ⊢; split at hg
  · cases hg
  · rename_i h1; rw [if_neg h1]; exact h.get k x hk hg⟩
theorem Hle.kill_kill_set (σ : Heap) (l : Nat) (o : AObj) : Hle (σ.kill l) ((σ.set l o).kill l) := ⟨Nat.le_refl _, fun k x _ hg => by
  simp only [Heap.kill] at hg ⊢; split at hg
  · cases hg
  · rename_i h; simp only [Heap.set, if_neg h]; exact hg⟩
end
section
variable {σ τ : Heap} {p : AVal} {as0 : List AVal} {l o k n : Nat} {a : AVal}
/-- Cells at a pointer. -/
def At (σ : Heap) (p : AVal) (as0 : List AVal) : Prop := ∃ l o md sz cs, p = .ptr l o ∧ l < σ.next ∧ σ.get l = some (.cells md sz cs) ∧ o + as0.length ≤ cs.length ∧ (cs.drop o).take as0.length = as0
theorem At.mono (h : At σ p as0) (L : Hle σ τ) : At τ p as0 := by
  obtain ⟨l, o, md, sz, cs, h1, h2, h3, h4, h5⟩ := h
  exact ⟨l, o, md, sz, cs, h1, Nat.lt_of_lt_of_le h2 L.next, L.get _ _ h2 h3, h4, h5⟩
theorem At.new (σ : Heap) (sz : Nat) (cs : List AVal) : At (σ.new (.cells .rw sz cs)) (.ptr σ.next 0) cs :=
  ⟨_, 0, .rw, sz, cs, rfl, Nat.lt_succ_self _, by simp [Heap.new], by simp, by simp⟩
theorem At.of_get {md : Md} {sz : Nat} (hl : l < σ.next) (h : σ.get l = some (.cells md sz as0)) : At σ (.ptr l 0) as0 := ⟨_, 0, md, sz, as0, rfl, hl, h, by simp, by simp⟩
theorem At.drop (h : At σ (.ptr l o) as0) (k : Nat) (hk : k ≤ as0.length) : At σ (.ptr l (o + k)) (as0.drop k) := by
  obtain ⟨l', o', md, sz, cs, h1, h2, h3, h4, h5⟩ := h
  cases h1
  refine ⟨l, o + k, md, sz, cs, rfl, h2, h3, by simp; omega, ?_⟩
  conv => rhs; rw [← h5]
  rw [List.drop_take, List.drop_drop, List.length_drop]
theorem At.take (h : At σ p as0) (k : Nat) (hk : k ≤ as0.length) : At σ p (as0.take k) := by
  obtain ⟨l', o', md, sz, cs, h1, h2, h3, h4, h5⟩ := h
  refine ⟨l', o', md, sz, cs, h1, h2, h3, by simp; omega, ?_⟩
  conv => rhs; rw [← h5]
  rw [List.take_take, List.length_take]
theorem At.fld (h : At σ p as0) (k : Nat) (hk : k ≤ as0.length) : ∃ q, (∀ {Rt : Type} (K : AVal → Option Rt), fld p k K = K q) ∧ At σ q (as0.drop k) := by
  obtain ⟨l, o, md, sz, cs, rfl, h2⟩ := id h
  exact ⟨.ptr l (o + k), fun K => rfl, h.drop k hk⟩
theorem At.cell {l o : Nat} (h : At σ (.ptr l o) as0) (hk : as0[k]? = some a) : σ.cell l (o + k) = some a := by
  obtain ⟨l', o', md, sz, cs, h1, h2, h3, h4, h5⟩ := h
  cases h1
  have hlt := (List.getElem?_eq_some_iff.1 hk).1
  have : ((cs.drop o).take as0.length)[k]? = some a := by rw [h5, hk]
  rw [List.getElem?_take_of_lt hlt, List.getElem?_drop] at this
  simp only [Heap.cell, h3, this]
theorem At.ld {Rt : Type} {kd : Kd} (h : At σ p (a :: as0)) (K : kd.ty → Option Rt) : ld σ p kd K = asK kd a K := by
  obtain ⟨l, o, _, _, _, rfl, _⟩ := id h
  have := h.cell (k := 0) (a := a) rfl
  rw [Nat.add_zero] at this
  simp only [A.ld, this]
theorem At.ld0 {Rt : Type} {kd : Kd} (h : At σ (.ptr l 0) as0) (hk : as0[k]? = some a) (K : kd.ty → Option Rt) : A.ld σ (.ptr l k) kd K = asK kd a K := by
  have := h.cell hk
  rw [Nat.zero_add] at this
  simp only [A.ld, this]
theorem At.ldG {Rt : Type} (h : At σ p as0) (hn : n = as0.length) (K : AVal → Option Rt) : ldG σ p n K = K (.agg as0) := by
  obtain ⟨l, o, md, sz, cs, rfl, h2, h3, h4, h5⟩ := h
  subst hn
  simp only [A.ldG, h3, if_pos h4, h5]
end
/-- How a datum stands in cells. -/
structure Vw (α : Type) where
  sz : Nat
  rel : Heap → α → List AVal → Prop
  pos : 0 < sz
  len : ∀ {σ a as0}, rel σ a as0 → as0.length = sz
  mono : ∀ {σ τ a as0}, Hle σ τ → rel σ a as0 → rel τ a as0

variable {α β : Type}
/-- A slice of data. -/
def SlV (v : Vw α) (σ : Heap) (xs : List α) (x : AVal) : Prop := (x = .nils ∧ xs = []) ∨ ∃ l off c md cs, x = .sl l off xs.length c ∧ l < σ.next ∧ σ.get l = some (.cells md v.sz cs) ∧
  (off + xs.length) * v.sz ≤ cs.length ∧ ∀ i a, xs[i]? = some a → v.rel σ a ((cs.drop ((off + i) * v.sz)).take v.sz)
def Vw.int : Vw Int := ⟨1, fun _ a as0 => as0 = [.int .i64 a], Nat.one_pos, fun h => by rw [h]; rfl, fun _ h => h⟩
def Vw.bool : Vw Bool := ⟨1, fun _ a as0 => as0 = [.bool a], Nat.one_pos, fun h => by rw [h]; rfl, fun _ h => h⟩
def Vw.pair (v : Vw α) (w : Vw β) : Vw (α × β) := ⟨v.sz + w.sz, fun σ ab as0 => ∃ as1 as2, as0 = as1 ++ as2 ∧ v.rel σ ab.1 as1 ∧ w.rel σ ab.2 as2, Nat.add_pos_left v.pos _, fun h => by
  obtain ⟨_, _, rfl, h1, h2⟩ := h
  rw [List.length_append, v.len h1, w.len h2], fun L h => by
  obtain ⟨a, b, e, h1, h2⟩ := h
  exact ⟨a, b, e, v.mono L h1, w.mono L h2⟩⟩

section
variable {v : Vw α} {σ τ : Heap} {xs ys : List α} {x w : AVal}
theorem SlV.mono (h : SlV v σ xs x) (L : Hle σ τ) : SlV v τ xs x := by
  rcases h with h | ⟨l, off, c, md, cs, h1, h2, h3, h4, h5⟩
  · exact .inl h
  · exact .inr ⟨l, off, c, md, cs, h1, Nat.lt_of_lt_of_le h2 L.next, L.get _ _ h2 h3, h4, fun i a ha => v.mono L (h5 i a ha)⟩
theorem SlV.nil (v : Vw α) (σ : Heap) : SlV v σ [] .nils := .inl ⟨rfl, rfl⟩
def Vw.sl (v : Vw α) : Vw (List α) := ⟨1, fun σ xs as0 => ∃ x, as0 = [x] ∧ SlV v σ xs x, Nat.one_pos, fun h => by obtain ⟨_, rfl, _⟩ := h; rfl, fun L h => by
  obtain ⟨x, e, h⟩ := h
  exact ⟨x, e, h.mono L⟩⟩
theorem SlV.len {Rt : Type} (h : SlV v σ xs x) (K : Int → Option Rt) : lenV x K = K (xs.length : Int) := by
  rcases h with ⟨rfl, rfl⟩ | ⟨l, off, c, md, cs, rfl, _⟩ <;> rfl
theorem SlV.scal {Rt : Type} (h : SlV v σ xs x) (X : Option Rt) : scal x X = X := by
  rcases h with ⟨rfl, rfl⟩ | ⟨l, off, c, md, cs, rfl, _⟩ <;> rfl
theorem SlV.ix {i : Nat} {a : α} (h : SlV v σ xs x) (hi : xs[i]? = some a) : ∃ p as0, At σ p as0 ∧ v.rel σ a as0 ∧ ∀ {τ : Heap}, Hle σ τ → ∀ {Rt : Type} (K : AVal → Option Rt), ixA τ x v.sz (i : Int) K = K p := by
  rcases h with ⟨rfl, rfl⟩ | ⟨l, off, c, md, cs, rfl, h2, h3, h4, h5⟩
  · simp at hi
  · have hlt := (List.getElem?_eq_some_iff.1 hi).1
    have hr := h5 i a hi
    have hle : (off + i) * v.sz + v.sz ≤ cs.length := Nat.le_trans (by rw [← Nat.succ_mul]; exact Nat.mul_le_mul_right _ (by omega)) h4
    refine ⟨.ptr l ((off + i) * v.sz), _, ⟨l, (off + i) * v.sz, md, v.sz, cs, rfl, h2, h3, by rw [v.len hr]; exact hle, by rw [v.len hr]⟩, hr, fun {τ} L {_} K => ?_⟩
    simp only [ixA, L.get _ _ h2 h3]
    rw [if_pos ⟨trivial, by omega, by omega⟩, Int.toNat_natCast]
theorem SlV.src (h : SlV v σ ys w) : ∃ cs, (∀ {Rt : Type} (K : List AVal → Nat → Option Rt), srcK σ v.sz w K = K cs ys.length) ∧ cs.length = ys.length * v.sz ∧ ∀ i a, ys[i]? = some a → v.rel σ a ((cs.drop (i * v.sz)).take v.sz) := by
  rcases h with ⟨rfl, rfl⟩ | ⟨l, off, c, md, cs, rfl, h2, h3, h4, h5⟩
  · exact ⟨[], fun K => rfl, by simp, fun i a h => by simp at h⟩
  · refine ⟨(cs.drop (off * v.sz)).take (ys.length * v.sz), fun K => ?_, ?_, fun i a hi => ?_⟩
    · simp only [srcK, h3]; rw [if_pos ⟨trivial, h4⟩]
    · have : (off + ys.length) * v.sz = off * v.sz + ys.length * v.sz := Nat.add_mul ..
      rw [List.length_take, List.length_drop]; omega
    · have hlt := (List.getElem?_eq_some_iff.1 hi).1
      have e : (i + 1) * v.sz ≤ ys.length * v.sz := Nat.mul_le_mul_right _ hlt
      rw [Nat.add_mul, Nat.one_mul] at e
      rw [List.drop_take, List.drop_drop, List.take_take, Nat.min_eq_left (by omega), ← Nat.add_mul]
      exact h5 i a hi

/-- The heap without the object of a slice. -/
def out (σ : Heap) : AVal → Heap
  | .sl l _ _ _ => σ.kill l
  | _ => σ
/-- A slice of one's own, to be appended to. -/
def Acc (v : Vw α) (n0 : Nat) (σ : Heap) (xs : List α) (x : AVal) : Prop := (x = .nils ∧ xs = []) ∨ ∃ l cs, x = .sl l 0 xs.length none ∧ n0 ≤ l ∧ l < σ.next ∧ σ.get l = some (.cells .rw v.sz cs) ∧
  xs.length * v.sz ≤ cs.length ∧ ∀ i a, xs[i]? = some a → v.rel (σ.kill l) a ((cs.drop (i * v.sz)).take v.sz)
theorem Hle.out (σ : Heap) (x : AVal) : Hle (out σ x) σ := by
  cases x <;> first | exact Hle.refl _ | exact Hle.of_kill ..
theorem Hle.outs (h : Hle σ τ) (x : AVal) : Hle (A.out σ x) (A.out τ x) := by
  cases x <;> first | exact h | exact h.killed _
theorem out_next (σ : Heap) (x : AVal) : (out σ x).next = σ.next := by cases x <;> rfl
theorem Acc.nil (v : Vw α) (n0 : Nat) (σ : Heap) : Acc v n0 σ [] .nils := .inl ⟨rfl, rfl⟩
theorem Acc.sl {n0 : Nat} (h : Acc v n0 σ xs x) : SlV v σ xs x := by
  rcases h with h | ⟨l, cs, rfl, _, h2, h3, h4, h5⟩
  · exact .inl h
  · exact .inr ⟨l, 0, none, .rw, cs, rfl, h2, h3, by simpa using h4, fun i a hi => by rw [Nat.zero_add]; exact v.mono (Hle.of_kill _ _) (h5 i a hi)⟩
theorem Acc.mono {n0 : Nat} (h : Acc v n0 σ xs x) (L : Hle σ τ) : Acc v n0 τ xs x := by
  rcases h with h | ⟨l, cs, h1, h2, h3, h4, h5, h6⟩
  · exact .inl h
  · exact .inr ⟨l, cs, h1, h2, Nat.lt_of_lt_of_le h3 L.next, L.get _ _ h3 h4, h5, fun i a hi => v.mono (L.killed l) (h6 i a hi)⟩
theorem Acc.out_le {σ0 : Heap} (h : Acc v σ0.next σ xs x) (L : Hle σ0 σ) : Hle σ0 (out σ x) := by
  rcases h with ⟨rfl, _⟩ | ⟨l, cs, rfl, h2, _⟩
  · exact L
  · exact L.kill h2
theorem Acc.len {Rt : Type} {n0 : Nat} (h : Acc v n0 σ xs x) (K : Int → Option Rt) : lenV x K = K (xs.length : Int) := h.sl.len K

theorem append_rel {v : Vw α} {σ : Heap} {xs ys : List α} {cs ds : List AVal} (hc : cs.length = xs.length * v.sz) (h1 : ∀ i a, xs[i]? = some a → v.rel σ a ((cs.drop (i * v.sz)).take v.sz)) (h2 : ∀ i a, ys[i]? = some a → v.rel σ a ((ds.drop (i * v.sz)).take v.sz)) (es : List AVal)
    (hd : ds.length = ys.length * v.sz) : ∀ i a, (xs ++ ys)[i]? = some a → v.rel σ a (((cs ++ ds ++ es).drop (i * v.sz)).take v.sz) := by
  intro i a hi
  by_cases h : i < xs.length
  · rw [List.getElem?_append_left h] at hi
    have := h1 i a hi
    have e : (i + 1) * v.sz ≤ xs.length * v.sz := Nat.mul_le_mul_right _ h
    rw [Nat.add_mul, Nat.one_mul] at e
    rw [List.append_assoc, List.drop_append_of_le_length (by omega), List.take_append_of_le_length (by simp; omega)]
    exact this
  · rw [List.getElem?_append_right (by omega)] at hi
    have := h2 _ a hi
    have hlt := (List.getElem?_eq_some_iff.1 hi).1
    have e0 : i * v.sz = cs.length + (i - xs.length) * v.sz := by rw [hc, ← Nat.add_mul]; congr 1; omega
    have e : (i - xs.length + 1) * v.sz ≤ ys.length * v.sz := Nat.mul_le_mul_right _ hlt
    rw [Nat.add_mul, Nat.one_mul] at e
    rw [List.append_assoc, e0, ← List.drop_drop, List.drop_left, List.drop_append_of_le_length (by omega), List.take_append_of_le_length (by simp; omega)]
    exact this

theorem Acc.app {σ0 : Heap} {bytes : Nat} (h : Acc v σ0.next σ xs x) (L : Hle σ0 σ) (hs : SlV v (out σ x) ys w) (hb : (xs.length + ys.length) * bytes ≤ 70368744177664) (hb' : xs.length + ys.length ≤ 70368744177664) :
    ∃ x' σ', (∀ {Rt : Type} (K : AVal → Heap → Option Rt), appS σ v.sz bytes x w K = K x' σ') ∧ Hle σ0 σ' ∧ Acc v σ0.next σ' (xs ++ ys) x' ∧ Hle (out σ x) (out σ' x') := by
  obtain ⟨ds, e1, d1, d2⟩ := hs.src
  have e1' : ∀ {Rt : Type} (K : List AVal → Nat → Option Rt), srcK σ v.sz w K = K ds ys.length := by
    rcases hs with ⟨rfl, rfl⟩ | ⟨l, off, c, md, cs, rfl, h2, h3, h4, h5⟩
    · exact fun K => e1 K
    · intro Rt K
      rw [← e1 K]
      simp only [srcK, h3, (Hle.out σ x).get _ _ h2 h3]
  rcases h with ⟨rfl, rfl⟩ | ⟨l, cs, rfl, h2, h3, h4, h5, h6⟩
  · by_cases h0 : ys.length = 0
    · have : ys = [] := List.eq_nil_of_length_eq_zero h0
      subst this
      exact ⟨.nils, σ, fun K => by simp only [appS, e1', appC]; rw [if_pos h0], L, .inl ⟨rfl, rfl⟩, Hle.refl _⟩
    · refine ⟨.sl σ.next 0 ys.length none, σ.new (.cells .rw v.sz ds), fun K => ?_, L.new _, .inr ⟨σ.next, ds, by simp, L.next, Nat.lt_succ_self _, by simp [Heap.new], by simp [d1], fun i a hi => ?_⟩, ?_⟩
      · simp only [appS, e1', appC, newK]
        simp only [List.length_nil, Nat.zero_add] at hb hb'
        rw [if_neg h0, if_pos ⟨hb, hb'⟩]
      · rw [List.nil_append] at hi
        refine v.mono ?_ (d2 i a hi)
        exact ⟨Nat.le_succ _, fun k y hk hg => by simp only [A.out] at hk; simp only [Heap.kill, Heap.new]; rw [if_neg (by omega), if_neg (by omega)]; exact hg⟩
      · exact ⟨Nat.le_succ _, fun k y hk hg => by simp only [A.out] at hk hg ⊢; simp only [Heap.kill, Heap.new]; rw [if_neg (by omega), if_neg (by omega)]; exact hg⟩
  · simp only [A.out] at hs d2 ⊢
    by_cases h0 : ys.length = 0
    · have : ys = [] := List.eq_nil_of_length_eq_zero h0
      subst this
      refine ⟨_, σ, fun K => by simp only [appS, e1', appC, h4]; rw [if_pos ⟨trivial, v.pos, by simpa using h5⟩, if_pos h0], L, .inr ⟨l, cs, by simp, h2, h3, h4, by simpa using h5, fun i a hi => h6 i a (by simpa using hi)⟩, Hle.refl _⟩
    · by_cases hroom : (xs.length + ys.length) * v.sz ≤ cs.length
      · have ea : (xs.length + ys.length) * v.sz = xs.length * v.sz + ys.length * v.sz := Nat.add_mul ..
        refine ⟨.sl l 0 (xs.length + ys.length) none, σ.set l (.cells .rw v.sz (cs.take (xs.length * v.sz) ++ ds ++ cs.drop ((xs.length + ys.length) * v.sz))), fun K => ?_, L.set h2 _, .inr ⟨l, cs.take (xs.length * v.sz) ++ ds ++ cs.drop ((xs.length + ys.length) * v.sz), by simp, h2, h3, by simp [Heap.set], by simp; omega, ?_⟩, Hle.kill_kill_set ..⟩
        · simp only [appS, e1', appC, h4, Nat.zero_add]
          rw [if_pos ⟨trivial, v.pos, h5⟩, if_neg h0, if_pos ⟨hb, hb'⟩]
          simp only [if_true]
          rw [if_pos hroom]
        · refine append_rel (by simp; omega) (fun i a hi => ?_) (fun i a hi => v.mono (Hle.kill_kill_set ..) (d2 i a hi)) (cs.drop ((xs.length + ys.length) * v.sz)) d1
          have hlt := (List.getElem?_eq_some_iff.1 hi).1
          have e : (i + 1) * v.sz ≤ xs.length * v.sz := Nat.mul_le_mul_right _ hlt
          rw [Nat.add_mul, Nat.one_mul] at e
          rw [List.drop_take, List.take_take, Nat.min_eq_left (by omega)]
          exact v.mono (Hle.kill_kill_set ..) (h6 i a hi)
      · refine ⟨.sl σ.next 0 (xs.length + ys.length) none, (σ.kill l).new (.cells .rw v.sz (cs.take (xs.length * v.sz) ++ ds)), fun K => ?_, (L.kill h2).new _, .inr ⟨σ.next, cs.take (xs.length * v.sz) ++ ds, by simp, L.next, Nat.lt_succ_self _, by simp [Heap.new, Heap.kill], by simp [Nat.add_mul]; omega, ?_⟩, ?_⟩
        · simp only [appS, e1', appC, h4, Nat.zero_add]
          rw [if_pos ⟨trivial, v.pos, h5⟩, if_neg h0, if_pos ⟨hb, hb'⟩]
          simp only [if_true]
          rw [if_neg hroom]
          simp only [newK, Nat.zero_mul, List.drop_zero]
          rfl
        · have Lk : Hle (σ.kill l) (((σ.kill l).new (.cells .rw v.sz (cs.take (xs.length * v.sz) ++ ds))).kill σ.next) :=
            ⟨Nat.le_succ _, fun k y hk hg => by
              have hk : k < σ.next := hk
              have hne : k ≠ σ.next := by omega
              have hne2 : k ≠ (σ.kill l).next := hne
              rw [hkill_get, if_neg hne, hnew_get, if_neg (show ¬ k = (σ.kill l).next from hne)]; exact hg⟩
          have := append_rel (v := v) (σ := ((σ.kill l).new (.cells .rw v.sz (cs.take (xs.length * v.sz) ++ ds))).kill σ.next) (xs := xs) (ys := ys) (cs := cs.take (xs.length * v.sz)) (ds := ds) (by simp; omega) (fun i a hi => ?_) (fun i a hi => v.mono Lk (d2 i a hi)) [] d1
          · simpa using this
          · have hlt := (List.getElem?_eq_some_iff.1 hi).1
            have e : (i + 1) * v.sz ≤ xs.length * v.sz := Nat.mul_le_mul_right _ hlt
            rw [Nat.add_mul, Nat.one_mul] at e
            rw [List.drop_take, List.take_take, Nat.min_eq_left (by omega)]
            exact v.mono Lk (h6 i a hi)
        · exact ⟨Nat.le_succ _, fun k y hk hg => by
            have hk : k < σ.next := hk
            have hne : k ≠ σ.next := by omega
            show (((σ.kill l).new _).kill σ.next).get k = _; rw [hkill_get, if_neg hne, hnew_get, if_neg (show ¬ k = (σ.kill l).next from hne)]; exact hg⟩
end
section
variable {v : Vw α} {σ τ : Heap} {xs ys : List α} {x w : AVal} {n0 i : Nat} {a : α}
/-- An element of one's own slice: where it is, and what comes of a store. -/
theorem Acc.at (h : Acc v n0 σ xs x) (hi : xs[i]? = some a) : ∃ l o as0, (∀ {Rt : Type} (K : AVal → Option Rt), ixA σ x v.sz (i : Int) K = K (.ptr l o)) ∧ At σ (.ptr l o) as0 ∧ v.rel (out σ x) a as0 ∧
    ∀ k vs a', k + vs.length ≤ v.sz → v.rel (out σ x) a' (as0.take k ++ vs ++ as0.drop (k + vs.length)) →
      ∃ τ, (∀ {Rt : Type} (K : Heap → Option Rt), stC σ (.ptr l (o + k)) vs K = K τ) ∧ Acc v n0 τ (xs.set i a') x ∧ (∀ σ0 : Heap, σ0.next ≤ n0 → Hle σ0 σ → Hle σ0 τ) ∧ Hle (out σ x) (out τ x) ∧ τ.next = σ.next := by
  rcases h with ⟨rfl, rfl⟩ | ⟨l, cs, rfl, h2, h3, h4, h5, h6⟩
  · simp at hi
  · have hlt := (List.getElem?_eq_some_iff.1 hi).1
    have hr := h6 i a hi
    have hln := v.len hr
    have e : (i + 1) * v.sz ≤ xs.length * v.sz := Nat.mul_le_mul_right _ hlt
    rw [Nat.add_mul, Nat.one_mul] at e
    refine ⟨l, i * v.sz, (cs.drop (i * v.sz)).take v.sz, fun K => ?_, ⟨l, i * v.sz, .rw, v.sz, cs, rfl, h3, h4, by rw [hln]; omega, by rw [hln]⟩, hr, fun k vs a' hk hr' => ?_⟩
    · simp only [ixA, h4]
      rw [if_pos ⟨trivial, by omega, by omega⟩, Int.toNat_natCast, Nat.zero_add]
    · let cs' := cs.take (i * v.sz + k) ++ vs ++ cs.drop (i * v.sz + k + vs.length)
      refine ⟨σ.set l (.cells .rw v.sz cs'), fun K => ?_, .inr ⟨l, cs', by simp, h2, h3, by simp [Heap.set], by simp [cs']; omega, fun j b hj => ?_⟩, fun σ0 h0 L => L.set (by omega) _, Hle.kill_kill_set .., rfl⟩
      · simp only [stC, h4]
        rw [if_pos (by omega)]
      · refine v.mono (Hle.kill_kill_set ..) ?_
        rw [List.getElem?_set] at hj
        by_cases hij : i = j
        · subst hij
          rw [if_pos rfl, if_pos hlt] at hj
          cases hj
          have : (cs'.drop (i * v.sz)).take v.sz = ((cs.drop (i * v.sz)).take v.sz).take k ++ vs ++ ((cs.drop (i * v.sz)).take v.sz).drop (k + vs.length) := by
            apply List.ext_getElem? fun q => ?_
            simp only [cs']
            by_cases q1 : q < v.sz
            · rw [List.getElem?_take_of_lt q1, List.getElem?_drop]
              by_cases q2 : q < k
              · rw [List.append_assoc, List.append_assoc, List.getElem?_append_left (by simp; omega), List.getElem?_append_left (by simp; omega), List.getElem?_take_of_lt (by omega), List.getElem?_take_of_lt q2, List.getElem?_take_of_lt q1, List.getElem?_drop]
              · by_cases q3 : q < k + vs.length
                · rw [List.getElem?_append_left (by simp; omega), List.getElem?_append_right (by simp; omega), List.getElem?_append_left (by simp; omega), List.getElem?_append_right (by simp; omega)]
                  congr 1; simp; omega
                · rw [List.getElem?_append_right (by simp; omega), List.getElem?_append_right (by simp; omega), List.getElem?_drop, List.getElem?_drop, List.getElem?_take_of_lt (by simp; omega), List.getElem?_drop]
                  congr 1; simp; omega
            · rw [List.getElem?_eq_none (by simp; omega), List.getElem?_eq_none (by simp; omega)]
          rw [this]; exact hr'
        · rw [if_neg hij] at hj
          have hjl := (List.getElem?_eq_some_iff.1 hj).1
          have e2 : (j + 1) * v.sz ≤ xs.length * v.sz := Nat.mul_le_mul_right _ hjl
          rw [Nat.add_mul, Nat.one_mul] at e2
          have : (cs'.drop (j * v.sz)).take v.sz = (cs.drop (j * v.sz)).take v.sz := by
            apply List.ext_getElem? fun q => ?_
            by_cases q1 : q < v.sz
            · rw [List.getElem?_take_of_lt q1, List.getElem?_take_of_lt q1, List.getElem?_drop, List.getElem?_drop]
              simp only [cs']
              rcases Nat.lt_or_gt_of_ne hij with hlt' | hgt
              · have e3 : (i + 1) * v.sz ≤ j * v.sz := Nat.mul_le_mul_right _ hlt'
                rw [Nat.add_mul, Nat.one_mul] at e3
                rw [List.getElem?_append_right (by simp; omega), List.getElem?_drop]
                congr 1; simp; omega
              · have e3 : (j + 1) * v.sz ≤ i * v.sz := Nat.mul_le_mul_right _ hgt
                rw [Nat.add_mul, Nat.one_mul] at e3
                rw [List.append_assoc, List.getElem?_append_left (by simp; omega), List.getElem?_take_of_lt (by omega)]
            · rw [List.getElem?_eq_none (by simp; omega), List.getElem?_eq_none (by simp; omega)]
          rw [this]; exact h6 j b hj

/-- Data without places. -/
def Vw.Flat (v : Vw α) : Prop := ∀ σ τ a as0, v.rel σ a as0 → v.rel τ a as0
theorem Vw.int_flat : Vw.int.Flat := fun _ _ _ _ h => h
theorem Vw.bool_flat : Vw.bool.Flat := fun _ _ _ _ h => h
theorem SlV.flat {σ τ : Heap} (hf : v.Flat) (h : SlV v σ xs x) (hn : σ.next ≤ τ.next) (hg : ∀ l off len c, x = .sl l off len c → τ.get l = σ.get l) : SlV v τ xs x := by
  rcases h with h | ⟨l, off, c, md, cs, rfl, h2, h3, h4, h5⟩
  · exact .inl h
  · exact .inr ⟨l, off, c, md, cs, rfl, by omega, by rw [hg _ _ _ _ rfl]; exact h3, h4, fun i a ha => hf _ _ _ _ (h5 i a ha)⟩
/-- A newer slice of plain data is there without an older object. -/
theorem Acc.sl_out {v : Vw β} {ys : List β} {y : AVal} {w : Vw α} (hf : v.Flat) (h : Acc v n0 τ ys y) (hx : Acc w i σ xs x) (hn : σ.next ≤ n0) : SlV v (out τ x) ys y := by
  rcases hx with ⟨rfl, _⟩ | ⟨l, cs, rfl, h1, h2, _⟩
  · exact h.sl
  · refine h.sl.flat hf (Nat.le_refl _) fun l' off len c e => ?_
    rcases h with ⟨rfl, _⟩ | ⟨k, ds, rfl, k1, _⟩
    · cases e
    · cases e
      show (τ.kill l).get l' = _
      rw [hkill_get, if_neg (by omega)]
end
/-- A loop that counts. -/
theorem loopW_inv {X Y : Type} {f : X → Heap → Option ((X ⊕ Y) × Heap)} (n : Nat) (Inv : Nat → X → Heap → Prop) (Q : Y → Heap → Prop)
    (step : ∀ i x σ, i < n → Inv i x σ → (∃ x' σ', f x σ = some (.inl x', σ') ∧ Inv (i + 1) x' σ') ∨ ∃ y σ', f x σ = some (.inr y, σ') ∧ Q y σ')
    (stop : ∀ x σ, Inv n x σ → ∃ y σ', f x σ = some (.inr y, σ') ∧ Q y σ') {x : X} {σ : Heap} (h : Inv 0 x σ) : ∃ y σ', loopW f x σ = some (y, σ') ∧ Q y σ' := by
  have : ∀ k i x σ, i + k = n → Inv i x σ → ∃ y σ', loopW f x σ = some (y, σ') ∧ Q y σ' := by
    intro k
    induction k with
    | zero =>
      intro i x σ hi h
      obtain rfl : i = n := by omega
      obtain ⟨y, σ', h1, h2⟩ := stop x σ h
      exact ⟨y, σ', loopW_stop h1, h2⟩
    | succ k ih =>
      intro i x σ hi h
      rcases step i x σ (by omega) h with ⟨x', σ', h1, h2⟩ | ⟨y, σ', h1, h2⟩
      · obtain ⟨y, σ2, h3, h4⟩ := ih (i + 1) x' σ' (by omega) h2
        exact ⟨y, σ2, loopW_next h1 h3, h4⟩
      · exact ⟨y, σ', loopW_stop h1, h2⟩
  exact this n 0 x σ (by omega) h
theorem loopP_inv {X Y : Type} {f : X → Option (X ⊕ Y)} (n : Nat) (Inv : Nat → X → Prop) (Q : Y → Prop)
    (step : ∀ i x, i < n → Inv i x → (∃ x', f x = some (.inl x') ∧ Inv (i + 1) x') ∨ ∃ y, f x = some (.inr y) ∧ Q y)
    (stop : ∀ x, Inv n x → ∃ y, f x = some (.inr y) ∧ Q y) {x : X} (h : Inv 0 x) : ∃ y, loopP f x = some y ∧ Q y := by
  have : ∀ k i x, i + k = n → Inv i x → ∃ y, loopP f x = some y ∧ Q y := by
    intro k
    induction k with
    | zero =>
      intro i x hi h
      obtain rfl : i = n := by omega
      obtain ⟨y, h1, h2⟩ := stop x h
      exact ⟨y, loopP_stop h1, h2⟩
    | succ k ih =>
      intro i x hi h
      rcases step i x (by omega) h with ⟨x', h1, h2⟩ | ⟨y, h1, h2⟩
      · obtain ⟨y, h3, h4⟩ := ih (i + 1) x' (by omega) h2
        exact ⟨y, loopP_next h1 h3, h4⟩
      · exact ⟨y, loopP_stop h1, h2⟩
  exact this n 0 x (by omega) h
end Go.Proofs.YtgneblbblihaoaaGreatDoor.A

/- Arguments, as0 views. -/
namespace Go.Proofs.YtgneblbblihaoaaGreatDoor.A
open Go Go.RowKit
variable {P : Program} {α β : Type}
theorem slV_of {size : Nat} {rel : (Nat → Option AObj) → α → List AVal → Prop} (v : Vw β) (φ : α → β) (hsz : v.sz = size) {σ : Heap} (hn : ∀ l o, σ.get l = some o → l < σ.next)
    (hr : ∀ a us, rel σ.get a us → v.rel σ (φ a) us) {xs : List α} {us : List AVal} (h : sliceRel size rel σ.get xs us) : ∃ x, us = [x] ∧ SlV v σ (xs.map φ) x := by
  subst hsz
  rcases h with ⟨rfl, rfl⟩ | ⟨l, md, ass, rfl, h2, h3, h4, h5, _⟩
  · exact ⟨_, rfl, SlV.nil _ _⟩
  · refine ⟨_, rfl, .inr ⟨l, 0, none, md, ass.flatten, by simp, hn _ _ h2, h2, by rw [flatten_len _ _ h4, List.length_map, h3, Nat.zero_add]; exact Nat.le_refl _, fun i b hb => ?_⟩⟩
    simp only [List.getElem?_map, Option.map_eq_some_iff] at hb
    obtain ⟨a, ha, rfl⟩ := hb
    have hi := (List.getElem?_eq_some_iff.1 ha).1
    obtain ⟨u, hu⟩ : ∃ u, ass[i]? = some u := ⟨_, List.getElem?_eq_getElem (by omega)⟩
    have hul := h4 u (List.mem_of_getElem? hu)
    have : (ass.flatten.drop ((0 + i) * v.sz)).take v.sz = u := by
      apply List.ext_getElem? fun q => ?_
      rw [Nat.zero_add]
      by_cases hq : q < v.sz
      · rw [List.getElem?_take_of_lt hq, List.getElem?_drop, flatten_get v.sz ass i q u h4 hu hq]
      · rw [List.getElem?_eq_none (by simp; omega), List.getElem?_eq_none (by omega)]
    rw [this]
    exact hr a u (h5 i a u ha hu)
/-- What holds of the elements' cells holds of each. -/
theorem sliceRel_mem {size : Nat} {rel : (Nat → Option AObj) → α → List AVal → Prop} {g : Nat → Option AObj} {xs : List α} {us : List AVal} (h : sliceRel size rel g xs us) : ∀ a ∈ xs, ∃ u, rel g a u := by
  rcases h with ⟨_, rfl⟩ | ⟨l, md, ass, _, _, h3, _, h5, _⟩
  · intro a ha; cases ha
  · intro a ha
    obtain ⟨i, hi, e⟩ := List.getElem_of_mem ha
    exact ⟨_, h5 i a _ (by rw [List.getElem?_eq_getElem hi, e]) (List.getElem?_eq_getElem (by omega))⟩
theorem sliceRel_len {size : Nat} {rel : (Nat → Option AObj) → α → List AVal → Prop} {g : Nat → Option AObj} {xs : List α} {us : List AVal} (h : sliceRel size rel g xs us) : xs.length ≤ 140737488351232 := by
  rcases h with ⟨_, rfl⟩ | ⟨l, md, ass, _, _, _, _, _, h6⟩
  · simp
  · exact h6
end Go.Proofs.YtgneblbblihaoaaGreatDoor.A

/- The seat's own numbers: types, variables, functions. -/
namespace Go.Proofs.YtgneblbblihaoaaGreatDoor.A
open Go
noncomputable abbrev prg : Program := Tryz.prog
abbrev tErr : TypeId := 144
abbrev tAt : TypeId := 72
abbrev gBlocks : Nat := 5
abbrev gProof : Nat := 0
abbrev gRange : Nat := 1
abbrev gLimit : Nat := 2
abbrev gText : Nat := 3
abbrev gBudget : Nat := 4
abbrev gCert : Nat := 6
def okErr (P : Program) (t : TypeId) : Bool := match tiOf P t with
  | some ti => (match ti.tk with
    | .ptr e => (match tiOf P e with
      | some ei => !(Nat.beq ei.size 0) && ti.cmp
      | none => false)
    | _ => false)
  | none => false
theorem ti_err : ∃ ti e ei, tiOf prg tErr = some ti ∧ ti.tk = .ptr e ∧ tiOf prg e = some ei ∧ Nat.beq ei.size 0 = false ∧ ti.cmp = true := by
  have h : okErr prg tErr = true := by kernel_rfl
  unfold okErr at h
  split at h
  · rename_i ti h1
    split at h
    · rename_i e h2
      split at h
      · rename_i ei h3
        simp only [Bool.and_eq_true, Bool.not_eq_true'] at h
        exact ⟨ti, e, ei, h1, h2, h3, h.1, h.2⟩
      · cases h
    · cases h
  · cases h
end Go.Proofs.YtgneblbblihaoaaGreatDoor.A

/- Appending one element. -/
namespace Go.Proofs.YtgneblbblihaoaaGreatDoor.A
open Go
variable {α β : Type}
theorem Acc.loc {v : Vw α} {n0 : Nat} {σ : Heap} {xs : List α} {x : AVal} (h : Acc v n0 σ xs x) : ∀ l off len c, x = .sl l off len c → n0 ≤ l ∧ l < σ.next := fun l off len c e => by
  rcases h with ⟨rfl, _⟩ | ⟨l', cs, rfl, h1, h2, _⟩
  · cases e
  · cases e; exact ⟨h1, h2⟩
theorem one_src {v : Vw α} {σ : Heap} {x : AVal} {cs : List AVal} {a : α} (hx : ∀ l off len c, x = .sl l off len c → l < σ.next) (hr : v.rel (out σ x) a cs) :
    SlV v (out (σ.new (.cells .rw v.sz cs)) x) [a] (.sl σ.next 0 1 none) := by
  have L := ((Hle.refl σ).new (.cells .rw v.sz cs)).outs x
  refine .inr ⟨σ.next, 0, none, .rw, cs, rfl, by rw [out_next]; exact Nat.lt_succ_self _, ?_, by simp [v.len hr], fun j b hb => ?_⟩
  · cases hy : x with
    | sl l off len c =>
      have := hx _ _ _ _ hy
      show ((σ.new _).kill l).get _ = _
      rw [hkill_get, if_neg (by omega), hnew_get, if_pos rfl]
    | _ => simp only [out, hnew_get, if_true]
  · cases j with
    | zero =>
      simp at hb; subst hb
      have : (cs.drop ((0 + 0) * v.sz)).take v.sz = cs := by rw [Nat.add_zero, Nat.zero_mul, List.drop_zero]; exact List.take_of_length_le (by rw [v.len hr]; exact Nat.le_refl _)
      rw [this]; exact v.mono L hr
    | succ j => simp at hb
theorem Acc.push {v : Vw α} {σ0 σ : Heap} {xs : List α} {x : AVal} {cs : List AVal} {a : α} {bytes : Nat} (h : Acc v σ0.next σ xs x) (L : Hle σ0 σ) (hr : v.rel (out σ x) a cs) (hb : (xs.length + 1) * bytes ≤ 70368744177664) (hb' : xs.length + 1 ≤ 70368744177664) :
    ∃ x' σ', (∀ {Rt : Type} (K : AVal → Heap → Option Rt), appS (σ.new (.cells .rw v.sz cs)) v.sz bytes x (.sl σ.next 0 1 none) K = K x' σ') ∧ Hle σ0 σ' ∧ Acc v σ0.next σ' (xs ++ [a]) x' ∧ Hle (out σ x) (out σ' x') := by
  have L1 := (Hle.refl σ).new (.cells .rw v.sz cs)
  obtain ⟨x', σ', e1, e2, e3, e4⟩ := (h.mono L1).app (bytes := bytes) (L.trans L1) (one_src (fun l off len c e => (h.loc l off len c e).2) hr) (by rw [List.length_singleton]; exact hb) (by rw [List.length_singleton]; exact hb')
  exact ⟨x', σ', e1, e2, e3, (L1.outs x).trans e4⟩
/-- An empty slice with room. -/
theorem mk0 {v : Vw α} {σ : Heap} {n bytes : Nat} {z : List AVal} (hb : n * bytes ≤ 70368744177664) (hb' : n ≤ 70368744177664) : ∃ x τ, (∀ {Rt : Type} (K : AVal → Heap → Option Rt), mkS σ v.sz bytes z 0 (n : Int) K = K x τ) ∧ Hle σ τ ∧ Acc v σ.next τ [] x := by
  refine ⟨.sl σ.next 0 0 none, σ.new (.cells .rw v.sz (rep n z)), fun K => ?_, (Hle.refl σ).new _, .inr ⟨σ.next, rep n z, rfl, Nat.le_refl _, Nat.lt_succ_self _, by rw [hnew_get, if_pos rfl], by simp, fun i a hi => by simp at hi⟩⟩
  have h1 : (n : Int) * (bytes : Int) ≤ 70368744177664 := by
    have : ((n * bytes : Nat) : Int) ≤ 70368744177664 := by omega
    rwa [Int.natCast_mul] at this
  simp only [mkS, newK]
  rw [if_pos ⟨by omega, by omega, h1, by omega⟩, Int.toNat_natCast, Int.toNat_zero]
end Go.Proofs.YtgneblbblihaoaaGreatDoor.A

/- A calculus for the shallow functions: what a run comes to. -/
namespace Go.Proofs.YtgneblbblihaoaaGreatDoor.A
open Go
/-! Short names. -/
set_option linter.all false
def q1 := @decide_eq_true_eq
def q2 := @decide_eq_false_iff_not
def q3 := @Bool.not_eq_true'
def q4 := @Bool.not_eq_false'
def q5 := @beq_iff_eq
def q6 := @beq_eq_false_iff_ne
def q7 := @bne_iff_ne
def q8 := @bne_eq_false_iff_eq
def q9 := @Bool.not_eq_true
def q10 := @Bool.not_eq_false
def q11 := @Bool.not_true
def q12 := @Bool.not_false
def q13 := @Bool.true_eq_false
def q14 := @Bool.false_eq_true
def q15 := @Int.not_lt
def q16 := @Int.not_le
def q17 := @gt_iff_lt
def q18 := @ge_iff_le
def q19 := @ne_eq
def q20 := @Int.toNat_natCast
def q21 := @not_true_eq_false
def q22 := @not_false_eq_true
def q23 := @Bool.and_eq_true
def q24 := @Bool.or_eq_true
def q25 := @Bool.and_eq_false_iff
def q26 := @Bool.or_eq_false_iff
def q27 := @Option.isNone_none
def q28 := @Option.isNone_some
def q29 := @Option.isSome_none
def q30 := @Option.isSome_some

/-- A run comes to a result as0 Q says. -/
def W {R : Type} (o : Option R) (Q : R → Prop) : Prop := ∃ r, o = some r ∧ Q r

section
variable {R S : Type}
theorem W.ret {r : R} {Q : R → Prop} (h : Q r) : W (some r) Q := ⟨r, rfl, h⟩
theorem W.bind {o : Option S} {K : S → Option R} {Q : R → Prop} (h : W o fun r => W (K r) Q) : W (o.bind K) Q := by
  obtain ⟨r, rfl, h⟩ := h; exact h
theorem W.mono {o : Option R} {P Q : R → Prop} (h : W o P) (k : ∀ r, P r → Q r) : W o Q := by
  obtain ⟨r, e, h⟩ := h; exact ⟨r, e, k r h⟩
theorem W.call {o : Option S} {K : S → Option R} {P : S → Prop} {Q : R → Prop} (h : W o P) (k : ∀ r, P r → W (K r) Q) : W (o.bind K) Q := by
  obtain ⟨r, rfl, h⟩ := h; exact k r h
theorem W.eqn {o : Option S} {r : S} {K : S → Option R} {Q : R → Prop} (h : o = some r) (k : W (K r) Q) : W (o.bind K) Q := by
  rw [h]; exact k
theorem W.to {o o' : Option R} {Q : R → Prop} (h : o = o') (k : W o' Q) : W o Q := h ▸ k
theorem W.cnd {b : Bool} {x y : Option R} {Q : R → Prop} (h : b = true → W x Q) (k : b = false → W y Q) : W (cond b x y) Q := by
  cases b
  · exact k rfl
  · exact h rfl
theorem W.condT {b : Bool} {x y : Option R} {Q : R → Prop} (h : b = true) (k : W x Q) : W (cond b x y) Q := by subst h; exact k
theorem W.condF {b : Bool} {x y : Option R} {Q : R → Prop} (h : b = false) (k : W y Q) : W (cond b x y) Q := by subst h; exact k
theorem W.chk {p : Prop} {o : Option R} {Q : R → Prop} (h : p) (k : W o Q) : W (chk p o) Q := by
  simp only [A.chk, if_pos h]; exact k
theorem W.out {o : Option R} {Q : R → Prop} (h : W o Q) : ∃ r, o = some r ∧ Q r := h
end
/-! ### Loops -/
/-- What a round may come to. -/
@[reducible] def LQ {X Y : Type} (A : X → Heap → Prop) (B : Y × Heap → Prop) : (X ⊕ Y) × Heap → Prop := fun r => match r.1 with
  | .inl x => A x r.2
  | .inr y => B (y, r.2)
@[reducible] def LP {X Y : Type} (A : X → Prop) (B : Y → Prop) : X ⊕ Y → Prop
  | .inl x => A x
  | .inr y => B y
section
variable {X Y : Type}
theorem W.next {A : X → Heap → Prop} {B : Y × Heap → Prop} {x : X} {σ : Heap} (h : A x σ) : W (some (.inl x, σ)) (LQ A B) := ⟨_, rfl, h⟩
theorem W.stop {A : X → Heap → Prop} {B : Y × Heap → Prop} {y : Y} {σ : Heap} (h : B (y, σ)) : W (some (.inr y, σ)) (LQ A B) := ⟨_, rfl, h⟩
theorem W.nextP {A : X → Prop} {B : Y → Prop} {x : X} (h : A x) : W (some (.inl x)) (LP A B) := ⟨_, rfl, h⟩
theorem W.stopP {A : X → Prop} {B : Y → Prop} {y : Y} (h : B y) : W (some (.inr y)) (LP A B) := ⟨_, rfl, h⟩
/-- A loop that counts to n. -/
theorem W.loop {f : X → Heap → Option ((X ⊕ Y) × Heap)} {Q : Y × Heap → Prop} (n : Nat) (Inv : Nat → X → Heap → Prop) {x : X} {σ : Heap} (h0 : Inv 0 x σ)
    (step : ∀ i x σ, i ≤ n → Inv i x σ → W (f x σ) (LQ (fun x' σ' => i < n ∧ Inv (i + 1) x' σ') Q)) : W (loopW f x σ) Q := by
  have : ∀ k i x σ, i + k = n → Inv i x σ → W (loopW f x σ) Q := by
    intro k
    induction k with
    | zero =>
      intro i x σ hi h
      obtain ⟨⟨r, τ⟩, e, hr⟩ := step i x σ (by omega) h
      cases r with
      | inl x' => exact absurd hr.1 (by omega)
      | inr y => exact ⟨_, loopW_stop e, hr⟩
    | succ k ih =>
      intro i x σ hi h
      obtain ⟨⟨r, τ⟩, e, hr⟩ := step i x σ (by omega) h
      cases r with
      | inl x' =>
        obtain ⟨z, h3, h4⟩ := ih (i + 1) x' τ (by omega) hr.2
        exact ⟨z, loopW_next e h3, h4⟩
      | inr y => exact ⟨_, loopW_stop e, hr⟩
  exact this n 0 x σ (by omega) h0
theorem W.loopP {f : X → Option (X ⊕ Y)} {Q : Y → Prop} (n : Nat) (Inv : Nat → X → Prop) {x : X} (h0 : Inv 0 x)
    (step : ∀ i x, i ≤ n → Inv i x → W (f x) (LP (fun x' => i < n ∧ Inv (i + 1) x') Q)) : W (A.loopP f x) Q := by
  have : ∀ k i x, i + k = n → Inv i x → W (A.loopP f x) Q := by
    intro k
    induction k with
    | zero =>
      intro i x hi h
      obtain ⟨r, e, hr⟩ := step i x (by omega) h
      cases r with
      | inl x' => exact absurd hr.1 (by omega)
      | inr y => exact ⟨_, loopP_stop e, hr⟩
    | succ k ih =>
      intro i x hi h
      obtain ⟨r, e, hr⟩ := step i x (by omega) h
      cases r with
      | inl x' =>
        obtain ⟨z, h3, h4⟩ := ih (i + 1) x' (by omega) hr.2
        exact ⟨z, loopP_next e h3, h4⟩
      | inr y => exact ⟨_, loopP_stop e, hr⟩
  exact this n 0 x (by omega) h0
end
/-! ### Reads -/
section
variable {R α : Type} {v : Vw α} {σ : Heap} {xs : List α} {x p : AVal} {as0 : List AVal} {Q : R → Prop}
theorem W.len (h : SlV v σ xs x) {K : Int → Option R} (k : W (K (xs.length : Int)) Q) : W (lenV x K) Q := W.to (h.len K) k
theorem W.lenN {K : Int → Option R} (k : W (K 0) Q) : W (lenV .nils K) Q := k
theorem W.scalS (h : SlV v σ xs x) {X : Option R} (k : W X Q) : W (scal x X) Q := W.to (h.scal X) k
theorem fld_fld (p : AVal) (j k : Nat) (K : AVal → Option R) : fld p j (fun q => fld q k K) = fld p (j + k) K := by
  cases p <;> simp [fld, Nat.add_assoc]
theorem W.fldfld {j k : Nat} {K : AVal → Option R} (h : W (fld p (j + k) K) Q) : W (fld p j fun q => fld q k K) Q := W.to (fld_fld p j k K) h
/-- A field, read. -/
theorem W.fldld (h : At σ p as0) {k : Nat} {a : AVal} (hk : as0[k]? = some a) {kd : Kd} {K : kd.ty → Option R} (c : W (asK kd a K) Q) : W (fld p k fun q => ld σ q kd K) Q := by
  obtain ⟨l, o, md, sz, cs, rfl, _⟩ := id h
  have := h.cell hk
  refine W.to ?_ c
  simp only [fld, ld, this]
theorem W.ldp {l o : Nat} (h : At σ (.ptr l o) as0) {k : Nat} {a : AVal} (hk : as0[k]? = some a) {kd : Kd} {K : kd.ty → Option R} (c : W (asK kd a K) Q) : W (ld σ (.ptr l (o + k)) kd K) Q := by
  have := h.cell hk
  refine W.to ?_ c
  simp only [ld, this]
theorem W.ld0 (h : At σ p (as0)) {a : AVal} (hk : as0[0]? = some a) {kd : Kd} {K : kd.ty → Option R} (c : W (asK kd a K) Q) : W (ld σ p kd K) Q := by
  obtain ⟨l, o, md, sz, cs, rfl, _⟩ := id h
  have := h.cell hk
  rw [Nat.add_zero] at this
  refine W.to ?_ c
  simp only [ld, this]
theorem W.ldl {l : Nat} (h : At σ (.ptr l 0) as0) {k : Nat} {a : AVal} (hk : as0[k]? = some a) {kd : Kd} {K : kd.ty → Option R} (c : W (asK kd a K) Q) : W (ld σ (.ptr l k) kd K) Q :=
  W.to (h.ld0 hk K) c
theorem W.ldGG (h : At σ p as0) {n : Nat} (hn : as0.length = n) {K : AVal → Option R} (c : W (K (.agg as0)) Q) : W (ldG σ p n K) Q := W.to (h.ldG hn.symm K) c
theorem W.ldGo {l : Nat} (h : At σ (.ptr l 0) as0) {k n : Nat} (hk : k + n ≤ as0.length) {K : AVal → Option R} (c : W (K (.agg ((as0.drop k).take n))) Q) : W (ldG σ (.ptr l k) n K) Q := by
  have h2 := (h.drop k (by omega)).take n (by simp; omega)
  rw [Nat.zero_add] at h2
  exact W.ldGG h2 (by simp; omega) c
theorem W.aggK {n : Nat} {cs : List AVal} (h : cs.length = n) {K : List AVal → Option R} (c : W (K cs) Q) : W (A.aggK (.agg cs) n K) Q := by
  simp only [A.aggK, if_pos h]; exact c
/-- An element of a slice, in general. -/
theorem W.ix (h : SlV v σ xs x) {i : Int} (h0 : 0 ≤ i) (h1 : i < xs.length) {K : AVal → Option R} (c : ∀ p as0 a, xs[i.toNat]? = some a → At σ p as0 → v.rel σ a as0 → W (K p) Q) {sz : Nat} (hs : sz = v.sz := by rfl) : W (ixA σ x sz i K) Q := by
  subst hs
  obtain ⟨a, ha⟩ : ∃ a, xs[i.toNat]? = some a := ⟨_, List.getElem?_eq_getElem (by omega)⟩
  obtain ⟨p, as0, h2, h3, h4⟩ := h.ix ha
  refine W.to ?_ (c p as0 a ha h2 h3)
  have := h4 (Hle.refl σ) K
  rwa [Int.toNat_of_nonneg h0] at this
/-- An element that is known. -/
theorem W.ixk (h : SlV v σ xs x) {i : Int} {a : α} (ha : xs[i.toNat]? = some a) (h0 : 0 ≤ i) {K : AVal → Option R} (c : ∀ p as0, At σ p as0 → v.rel σ a as0 → W (K p) Q) {sz : Nat} (hs : sz = v.sz := by rfl) : W (ixA σ x sz i K) Q := by
  subst hs
  obtain ⟨p, as0, h2, h3, h4⟩ := h.ix ha
  refine W.to ?_ (c p as0 h2 h3)
  have := h4 (Hle.refl σ) K
  rwa [Int.toNat_of_nonneg h0] at this
end
section
variable {R : Type} {σ : Heap} {x : AVal} {Q : R → Prop}
theorem W.ixI {xs : List Int} (h : SlV .int σ xs x) {i : Int} {a : Int} (ha : xs[i.toNat]? = some a) (h0 : 0 ≤ i) {K : Int → Option R} (c : W (K a) Q) : W (ixA σ x 1 i fun p => ld σ p (.I .i64) K) Q :=
  W.ixk h ha h0 (fun p as0 hp hr => by
    have hr : as0 = [.int .i64 a] := hr
    subst hr
    exact W.ld0 hp rfl c)
theorem W.ixIn {xs : List Int} (h : SlV .int σ xs x) {i : Int} (h0 : 0 ≤ i) (h1 : i < xs.length) {K : Int → Option R} (c : ∀ a, xs[i.toNat]? = some a → W (K a) Q) : W (ixA σ x 1 i fun p => ld σ p (.I .i64) K) Q := by
  obtain ⟨a, ha⟩ : ∃ a, xs[i.toNat]? = some a := ⟨_, List.getElem?_eq_getElem (by omega)⟩
  exact W.ixI h ha h0 (c a ha)
theorem W.ixB {xs : List Bool} (h : SlV .bool σ xs x) {i : Int} {a : Bool} (ha : xs[i.toNat]? = some a) (h0 : 0 ≤ i) {K : Bool → Option R} (c : W (K a) Q) : W (ixA σ x 1 i fun p => ld σ p .B K) Q :=
  W.ixk h ha h0 (fun p as0 hp hr => by
    have hr : as0 = [.bool a] := hr
    subst hr
    exact W.ld0 hp rfl c)
/-- A slice in a slice. -/
theorem W.ixS {α : Type} {v : Vw α} {xs : List (List α)} (h : SlV v.sl σ xs x) {i : Int} {a : List α} (ha : xs[i.toNat]? = some a) (h0 : 0 ≤ i) {K : AVal → Option R} (c : ∀ y, SlV v σ a y → W (K y) Q) : W (ixA σ x 1 i fun p => ld σ p .V K) Q :=
  W.ixk h ha h0 (fun p as0 hp hr => by
    obtain ⟨y, rfl, hy⟩ := hr
    exact W.ld0 hp rfl (c y hy))
theorem W.ixSn {α : Type} {v : Vw α} {xs : List (List α)} (h : SlV v.sl σ xs x) {i : Int} (h0 : 0 ≤ i) (h1 : i < xs.length) {K : AVal → Option R} (c : ∀ a y, xs[i.toNat]? = some a → SlV v σ a y → W (K y) Q) : W (ixA σ x 1 i fun p => ld σ p .V K) Q := by
  obtain ⟨a, ha⟩ : ∃ a, xs[i.toNat]? = some a := ⟨_, List.getElem?_eq_getElem (by omega)⟩
  exact W.ixS h ha h0 fun y hy => c a y ha hy
end
/-! ### Objects of one's own -/
theorem Hle.mono {σ τ υ : Heap} (h : Hle σ τ) (k : Hle τ υ) : Hle σ υ := h.trans k
/-- An object of one's own, and its cells. -/
structure Loc (σ : Heap) (l : Nat) (cs : List AVal) : Prop where
  lt : l < σ.next
  get : ∃ sz, σ.get l = some (.cells .rw sz cs)
section
variable {σ τ : Heap} {l k : Nat} {cs : List AVal}
theorem Loc.mono (h : Loc σ l cs) (L : Hle σ τ) : Loc τ l cs := ⟨Nat.lt_of_lt_of_le h.lt L.next, h.get.elim fun sz e => ⟨sz, L.get _ _ h.lt e⟩⟩
theorem Loc.kill (h : Loc σ l cs) (hk : l ≠ k) : Loc (σ.kill k) l cs := ⟨h.lt, h.get.elim fun sz e => ⟨sz, by rw [hkill_get, if_neg hk]; exact e⟩⟩
theorem Loc.at (h : Loc σ l cs) : At σ (.ptr l 0) cs := h.get.elim fun _ e => At.of_get h.lt e
theorem Hle.ofk (L : Hle σ τ) (hk : σ.next ≤ k) {υ : Heap} (M : Hle (τ.kill k) υ) : Hle σ υ := (L.kill hk).trans M
theorem At.kill {p : AVal} {as0 : List AVal} (h : At σ p as0) (hk : ∀ o, p ≠ .ptr k o) : At (σ.kill k) p as0 := by
  obtain ⟨l, o, md, sz, cs, rfl, h2, h3, h4⟩ := h
  exact ⟨l, o, md, sz, cs, rfl, h2, by rw [hkill_get, if_neg (fun e => hk o (by rw [e]))]; exact h3, h4⟩
end
section
variable {R : Type} {σ τ : Heap} {Q : R → Prop}
/-- A new object. -/
theorem W.new {sz : Nat} {cs : List AVal} {K : Nat → Heap → Option R} (c : ∀ l τ, l = σ.next → Hle σ τ → Loc τ l cs → τ.next = σ.next + 1 → W (K l τ) Q) : W (newK σ sz cs K) Q :=
  c _ _ rfl ((Hle.refl σ).new _) ⟨Nat.lt_succ_self _, sz, by rw [hnew_get, if_pos rfl]⟩ rfl
theorem W.newg {sz : Nat} {cs : List AVal} {K : Nat → Heap → Option R} (c : ∀ l τ, l = σ.next → Hle σ τ → At τ (.ptr l 0) cs → τ.get l = some (.cells .rw sz cs) → τ.next = σ.next + 1 → W (K l τ) Q) : W (newK σ sz cs K) Q :=
  c _ _ rfl ((Hle.refl σ).new _) (At.new _ _ _) (by rw [hnew_get, if_pos rfl]) rfl
theorem W.st {l o : Nat} {cs vs : List AVal} (h : Loc σ l cs) (hv : o + vs.length ≤ cs.length) {K : Heap → Option R} (c : ∀ τ, Hle (σ.kill l) τ → τ.next = σ.next → Loc τ l (cs.take o ++ vs ++ cs.drop (o + vs.length)) → W (K τ) Q) : W (stC σ (.ptr l o) vs K) Q := by
  obtain ⟨sz, e⟩ := h.get
  refine W.to (o' := K (σ.set l (.cells .rw sz (cs.take o ++ vs ++ cs.drop (o + vs.length))))) ?_ (c _ (Hle.kill_set ..) rfl ⟨h.lt, sz, by rw [hset_get, if_pos rfl]⟩)
  simp only [stC, e, if_pos hv]
/-- All cells of an object. -/
theorem W.st0 {l : Nat} {cs vs : List AVal} (h : Loc σ l cs) (hv : vs.length = cs.length) {K : Heap → Option R} (c : ∀ τ, Hle (σ.kill l) τ → τ.next = σ.next → Loc τ l vs → W (K τ) Q) : W (stC σ (.ptr l 0) vs K) Q := by
  refine W.st h (by omega) fun τ a b d => c τ a b ?_
  have : cs.take 0 ++ vs ++ cs.drop (0 + vs.length) = vs := by simp [hv]
  rwa [this] at d
theorem W.ldL {l o : Nat} {cs : List AVal} (h : Loc σ l cs) {a : AVal} (hk : cs[o]? = some a) {kd : Kd} {K : kd.ty → Option R} (c : W (asK kd a K) Q) : W (ld σ (.ptr l o) kd K) Q := W.ldl h.at hk c
theorem W.ldGL {l o n : Nat} {cs : List AVal} (h : Loc σ l cs) (hk : o + n ≤ cs.length) {K : AVal → Option R} (c : W (K (.agg ((cs.drop o).take n))) Q) : W (ldG σ (.ptr l o) n K) Q := W.ldGo h.at hk c
theorem W.fldp {l o k : Nat} {K : AVal → Option R} (c : W (K (.ptr l (o + k))) Q) : W (fld (.ptr l o) k K) Q := c
theorem W.asI {k : IntKind} {n : Int} {K : Int → Option R} (c : W (K n) Q) : W (asK (.I k) (.int k n) K) Q := by
  refine W.to ?_ c; simp [asK]
theorem W.asB {n : Bool} {K : Bool → Option R} (c : W (K n) Q) : W (asK .B (.bool n) K) Q := c
theorem W.asV {n : AVal} {K : AVal → Option R} (c : W (K n) Q) : W (asK .V n K) Q := c
theorem W.asS {n : ByteArray} {K : ByteArray → Option R} (c : W (K n) Q) : W (asK .S (.str n) K) Q := c
theorem W.ixIc {x : AVal} {xs : List Int} {i : Nat} {a : Int} (h : SlV .int σ xs x) (ha : xs[i]? = some a) {K : Int → Option R} (c : W (K a) Q) : W (ixA σ x 1 (i : Int) fun p => ld σ p (.I .i64) K) Q := W.ixI h (by simpa using ha) (by omega) c
theorem W.ixBc {x : AVal} {xs : List Bool} {i : Nat} {a : Bool} (h : SlV .bool σ xs x) (ha : xs[i]? = some a) {K : Bool → Option R} (c : W (K a) Q) : W (ixA σ x 1 (i : Int) fun p => ld σ p .B K) Q := W.ixB h (by simpa using ha) (by omega) c
theorem W.ixInc {x : AVal} {xs : List Int} {i : Nat} (h : SlV .int σ xs x) (hi : i < xs.length) {K : Int → Option R} (c : ∀ a, xs[i]? = some a → W (K a) Q) : W (ixA σ x 1 (i : Int) fun p => ld σ p (.I .i64) K) Q := W.ixIn h (by omega) (by omega) (by simpa using c)
theorem W.ixSc {α : Type} {v : Vw α} {x : AVal} {xs : List (List α)} {i : Nat} {a : List α} (h : SlV v.sl σ xs x) (ha : xs[i]? = some a) {K : AVal → Option R} (c : ∀ y, SlV v σ a y → W (K y) Q) : W (ixA σ x 1 (i : Int) fun p => ld σ p .V K) Q := W.ixS h (by simpa using ha) (by omega) c
theorem W.ixSnc {α : Type} {v : Vw α} {x : AVal} {xs : List (List α)} {i : Nat} (h : SlV v.sl σ xs x) (hi : i < xs.length) {K : AVal → Option R} (c : ∀ a y, xs[i]? = some a → SlV v σ a y → W (K y) Q) : W (ixA σ x 1 (i : Int) fun p => ld σ p .V K) Q := W.ixSn h (by omega) (by omega) (by simpa using c)
theorem W.ixc {α : Type} {v : Vw α} {x : AVal} {xs : List α} {i : Nat} (h : SlV v σ xs x) (hi : i < xs.length) {K : AVal → Option R} (c : ∀ p us a, xs[i]? = some a → At σ p us → v.rel σ a us → W (K p) Q) {sz : Nat} (hs : sz = v.sz := by rfl) : W (ixA σ x sz (i : Int) K) Q := W.ix h (by omega) (by omega) (by simpa using c) hs
theorem W.ixkc {α : Type} {v : Vw α} {x : AVal} {xs : List α} {i : Nat} {a : α} (h : SlV v σ xs x) (ha : xs[i]? = some a) {K : AVal → Option R} (c : ∀ p as0, At σ p as0 → v.rel σ a as0 → W (K p) Q) {sz : Nat} (hs : sz = v.sz := by rfl) : W (ixA σ x sz (i : Int) K) Q := W.ixk h (by simpa using ha) (by omega) c hs
/-- Elements, as0 they were known before. -/
theorem W.ixL {α : Type} {v : Vw α} {τ : Heap} {x : AVal} {xs : List α} {i : Nat} (h : SlV v σ xs x) (L : Hle σ τ) (hi : i < xs.length) {K : AVal → Option R} (c : ∀ p us a, xs[i]? = some a → At σ p us → v.rel σ a us → W (K p) Q) {sz : Nat} (hs : sz = v.sz := by rfl) : W (ixA τ x sz (i : Int) K) Q := by
  subst hs
  obtain ⟨a, ha⟩ : ∃ a, xs[i]? = some a := ⟨_, List.getElem?_eq_getElem hi⟩
  obtain ⟨p, as0, h2, h3, h4⟩ := h.ix ha
  exact W.to (h4 L K) (c p as0 a ha h2 h3)
theorem W.ixkL {α : Type} {v : Vw α} {τ : Heap} {x : AVal} {xs : List α} {i : Nat} {a : α} (h : SlV v σ xs x) (L : Hle σ τ) (ha : xs[i]? = some a) {K : AVal → Option R} (c : ∀ p as0, At σ p as0 → v.rel σ a as0 → W (K p) Q) {sz : Nat} (hs : sz = v.sz := by rfl) : W (ixA τ x sz (i : Int) K) Q := by
  subst hs
  obtain ⟨p, as0, h2, h3, h4⟩ := h.ix ha
  exact W.to (h4 L K) (c p as0 h2 h3)
theorem W.ixLS {α : Type} {v : Vw α} {τ : Heap} {x : AVal} {xs : List (List α)} {i : Nat} (h : SlV v.sl σ xs x) (L : Hle σ τ) (hi : i < xs.length) {K : AVal → Option R} (c : ∀ a y, xs[i]? = some a → SlV v σ a y → W (K y) Q) : W (ixA τ x 1 (i : Int) fun p => ld τ p .V K) Q :=
  W.ixL h L hi fun p us a ha hp hr => by
    obtain ⟨y, rfl, hy⟩ := hr
    exact W.ld0 (hp.mono L) rfl (c a y ha hy)
theorem W.ixkLS {α : Type} {v : Vw α} {τ : Heap} {x : AVal} {xs : List (List α)} {i : Nat} {a : List α} (h : SlV v.sl σ xs x) (L : Hle σ τ) (ha : xs[i]? = some a) {K : AVal → Option R} (c : ∀ y, SlV v σ a y → W (K y) Q) : W (ixA τ x 1 (i : Int) fun p => ld τ p .V K) Q :=
  W.ixkL h L ha fun p us hp hr => by
    obtain ⟨y, rfl, hy⟩ := hr
    exact W.ld0 (hp.mono L) rfl (c y hy)
theorem W.putC {cs vs : List AVal} {off n : Nat} {K : List AVal → Option R} (h : Nat.ble (off + n) cs.length = true) (c : W (K (cs.take off ++ vs ++ cs.drop (off + n))) Q) : W (A.putC cs off n vs K) Q := by
  simp only [A.putC, if_pos (Nat.le_of_ble_eq_true h)]; exact c
theorem W.scI {k : IntKind} {n : Int} {X : Option R} (c : W X Q) : W (scal (.int k n) X) Q := c
theorem W.scB {n : Bool} {X : Option R} (c : W X Q) : W (scal (.bool n) X) Q := c
theorem W.scP {l o : Nat} {X : Option R} (c : W X Q) : W (scal (.ptr l o) X) Q := c
theorem W.scM {l : Nat} {X : Option R} (c : W X Q) : W (scal (.map l) X) Q := c
theorem W.scN {X : Option R} (c : W X Q) : W (scal .nils X) Q := c
theorem W.scNp {X : Option R} (c : W X Q) : W (scal .nilp X) Q := c
theorem W.scNi {X : Option R} (c : W X Q) : W (scal .nili X) Q := c
theorem W.scIf {t : TypeId} {v : AVal} {X : Option R} (c : W X Q) : W (scal (.ifc t v) X) Q := c
theorem W.scSl {l o n : Nat} {k : Option Nat} {X : Option R} (c : W X Q) : W (scal (.sl l o n k) X) Q := c
theorem W.nck {l o : Nat} {X : Option R} (c : W X Q) : W (nilck (.ptr l o) X) Q := c
theorem W.nnil {T : TypeId → Option TI} {K : Bool → Option R} (c : W (K true) Q) : W (eqI T σ true .nili .nili K) Q := c
theorem W.inil {T : TypeId → Option TI} {t : TypeId} {v : AVal} {K : Bool → Option R} (c : W (K false) Q) : W (eqI T σ true (.ifc t v) .nili K) Q := c
end
/-! ### Lists of one's own -/
section
variable {R α : Type} {v : Vw α} {σ0 σ : Heap} {xs ys : List α} {x y : AVal} {Q : R → Prop}
theorem W.push (h : Acc v σ0.next σ xs x) (L : Hle σ0 σ) {cs : List AVal} {a : α} (hr : v.rel (A.out σ x) a cs) {sz bytes : Nat} (hb : (xs.length + 1) * bytes ≤ 70368744177664) (hb' : xs.length + 1 ≤ 70368744177664) {K : AVal → Heap → Option R}
    (c : ∀ x' τ, Hle σ0 τ → Acc v σ0.next τ (xs ++ [a]) x' → Hle (A.out σ x) (A.out τ x') → W (K x' τ) Q) (hs : sz = v.sz := by rfl) : W (newK σ sz cs fun l τ => appS τ sz bytes x (.sl l 0 1 none) K) Q := by
  subst hs
  obtain ⟨x', τ, e, h1, h2, h3⟩ := h.push (bytes := bytes) L hr hb hb'
  exact W.to (e K) (c x' τ h1 h2 h3)
theorem W.pushI {xs : List Int} (h : Acc .int σ0.next σ xs x) (L : Hle σ0 σ) {a : Int} {bytes : Nat} (hb : (xs.length + 1) * bytes ≤ 70368744177664) (hb' : xs.length + 1 ≤ 70368744177664) {K : AVal → Heap → Option R}
    (c : ∀ x' τ, Hle σ0 τ → Acc .int σ0.next τ (xs ++ [a]) x' → Hle (A.out σ x) (A.out τ x') → W (K x' τ) Q) : W (newK σ 1 [.int .i64 a] fun l τ => appS τ 1 bytes x (.sl l 0 1 none) K) Q :=
  W.push h L (cs := [.int .i64 a]) (a := a) rfl hb hb' c
theorem W.app (h : Acc v σ0.next σ xs x) (L : Hle σ0 σ) (hy : SlV v (A.out σ x) ys y) {sz bytes : Nat} (hb : (xs.length + ys.length) * bytes ≤ 70368744177664) (hb' : xs.length + ys.length ≤ 70368744177664) {K : AVal → Heap → Option R}
    (c : ∀ x' τ, Hle σ0 τ → Acc v σ0.next τ (xs ++ ys) x' → Hle (A.out σ x) (A.out τ x') → W (K x' τ) Q) (hs : sz = v.sz := by rfl) : W (appS σ sz bytes x y K) Q := by
  subst hs
  obtain ⟨x', τ, e, h1, h2, h3⟩ := h.app (bytes := bytes) L hy hb hb'
  exact W.to (e K) (c x' τ h1 h2 h3)
theorem W.mk0 (v : Vw α) {n sz bytes : Nat} {z : List AVal} (hb : n * bytes ≤ 70368744177664) (hb' : n ≤ 70368744177664) {K : AVal → Heap → Option R}
    (c : ∀ x τ, Hle σ τ → Acc v σ.next τ [] x → W (K x τ) Q) (hs : sz = v.sz := by rfl) : W (mkS σ sz bytes z 0 (n : Int) K) Q := by
  subst hs
  obtain ⟨x, τ, e, h1, h2⟩ := A.mk0 (v := v) (σ := σ) (bytes := bytes) (z := z) hb hb'
  exact W.to (e K) (c x τ h1 h2)
end
end Go.Proofs.YtgneblbblihaoaaGreatDoor.A

/- Errors, and the faults that they are. -/
namespace Go.Proofs.YtgneblbblihaoaaGreatDoor.A
open Go
inductive Er where
  | text | limit | budget | range | blocks | proof | cert
  deriving DecidableEq
def Er.g : Er → Nat
  | .text => gText
  | .limit => gLimit
  | .budget => gBudget
  | .range => gRange
  | .blocks => gBlocks
  | .proof => gProof
  | .cert => gCert
def Er.s : Er → List UInt8
  | .text => [110, 111, 116, 32, 97, 115, 32, 105, 116, 32, 105, 115, 32, 119, 114, 105, 116, 116, 101, 110]
  | .limit => [109, 111, 114, 101, 32, 116, 104, 97, 110, 32, 109, 97, 121, 32, 98, 101]
  | .budget => [116, 104, 101, 32, 98, 117, 100, 103, 101, 116, 32, 105, 115, 32, 117, 115, 101, 100, 32, 117, 112]
  | .range => [97, 32, 110, 117, 109, 98, 101, 114, 32, 111, 117, 116, 32, 111, 102, 32, 105, 116, 115, 32, 114, 97, 110, 103, 101]
  | .blocks => [109, 111, 114, 101, 32, 116, 104, 97, 110, 32, 116, 119, 111, 32, 98, 108, 111, 99, 107, 115]
  | .proof => [97, 32, 115, 116, 101, 112, 32, 116, 104, 97, 116, 32, 100, 111, 101, 115, 32, 110, 111, 116, 32, 102, 111, 108, 108, 111, 119]
  | .cert => [110, 111, 32, 99, 101, 114, 116, 105, 102, 105, 99, 97, 116, 101, 32, 111, 102, 32, 105, 116]
def Er.code : Er → Int
  | .text => 101
  | .limit => 102
  | .budget => 103
  | .range => 104
  | .blocks => 105
  | .proof => 106
  | .cert => 107
def Er.all : List Er := [.text, .limit, .budget, .range, .blocks, .proof, .cert]
theorem Er.s_inj {e e' : Er} (h : e.s = e'.s) : e = e' := by
  revert h; cases e <;> cases e' <;> first | (intro _; rfl) | (intro h; exact absurd h (by decide))

/-- A value is this error. -/
def IsE (σ : Heap) (v : AVal) (e : Er) : Prop := e.g < σ.next ∧ σ.get e.g = some (.cells .rz 1 [v]) ∧ ∃ k, v = .ifc tErr (.ptr k 0) ∧ k < σ.next ∧ σ.get k = some (.cells .rz 1 [.str ⟨e.s.toArray⟩])
/-- Some errors' variables are there. -/
def GlS (E : List Er) (σ : Heap) : Prop := ∀ e ∈ E, ∃ v, IsE σ v e
abbrev GlAll (σ : Heap) : Prop := GlS Er.all σ
/-- An error as0 plain data. -/
abbrev Flt := Option (Er × Option Int)
def IsF (σ : Heap) (v : AVal) : Flt → Prop
  | none => v = .nili
  | some (e, none) => IsE σ v e
  | some (e, some pos) => ∃ l u, v = .ifc tAt (.ptr l 0) ∧ At σ (.ptr l 0) [.int .i64 pos, u] ∧ IsE σ u e
def fcells : Flt → List AVal
  | none => [.int .i64 0, .bool false, .int .i64 0]
  | some (e, none) => [.int .i64 e.code, .bool false, .int .i64 0]
  | some (e, some pos) => [.int .i64 e.code, .bool true, .int .i64 pos]

section
variable {σ τ : Heap} {v w : AVal} {e e' : Er} {f : Flt}
theorem IsE.mono (h : IsE σ v e) (L : Hle σ τ) : IsE τ v e := by
  obtain ⟨h1, h2, k, h3, h4, h5⟩ := h
  exact ⟨Nat.lt_of_lt_of_le h1 L.next, L.get _ _ h1 h2, k, h3, Nat.lt_of_lt_of_le h4 L.next, L.get _ _ h4 h5⟩
theorem GlS.mono {E : List Er} (h : GlS E σ) (L : Hle σ τ) : GlS E τ := fun e he => (h e he).elim fun v hv => ⟨v, hv.mono L⟩
theorem GlS.sub {E F : List Er} (h : GlS E σ) (k : ∀ e ∈ F, e ∈ E) : GlS F σ := fun e he => h e (k e he)
theorem IsF.mono (h : IsF σ v f) (L : Hle σ τ) : IsF τ v f := by
  match f, h with
  | none, h => exact h
  | some (e, none), h => exact IsE.mono h L
  | some (e, some pos), ⟨l, u, h1, h2, h3⟩ => exact ⟨l, u, h1, h2.mono L, h3.mono L⟩
theorem IsE.at (h : IsE σ v e) : At σ (.ptr e.g 0) [v] := At.of_get h.1 h.2.1
theorem IsE.inj (h : IsE σ v e) (k : IsE σ w e) : v = w := by
  have := h.2.1.symm.trans k.2.1
  simpa using this
theorem IsE.eqI (h : IsE σ v e) (k : IsE σ w e') {Rt : Type} (cn : Bool) (K : Bool → Option Rt) : eqI (tiOf prg) σ cn v w K = K (decide (e = e')) := by
  obtain ⟨ti, el, ei, q1, q2, q3, q4, q5⟩ := ti_err
  by_cases he : e = e'
  · subst he
    obtain rfl := h.inj k
    obtain ⟨h1, h2, a, rfl, h4, h5⟩ := h
    simp [A.eqI, q1, q2, q3, q4, q5]
  · obtain ⟨h1, h2, a, rfl, h4, h5⟩ := h
    obtain ⟨k1, k2, b, rfl, k4, k5⟩ := k
    have hne : e.s ≠ e'.s := fun hs => he (Er.s_inj hs)
    have hab : a ≠ b := fun hab => by
      subst hab; rw [h5] at k5; simp at k5; exact hne k5
    have hs : strNe [AVal.str ⟨e.s.toArray⟩][0]? [AVal.str ⟨e'.s.toArray⟩][0]? = true := by
      simp [strNe]; exact hne
    simp only [A.eqI, if_pos, q1, q2, q3, q4, q5, h5, k5, if_neg hab, Bool.not_true, Bool.or_false, cond_false, decide_eq_false he, hs]
    rw [if_pos (.inr ⟨rfl, rfl, trivial⟩)]
theorem IsF.nil (h : IsF σ v f) {Rt : Type} (K : Bool → Option Rt) : A.eqI (tiOf prg) σ true v .nili K = K f.isNone := by
  match f, h with
  | none, h => subst h; rfl
  | some (e, none), ⟨_, _, k, h, _⟩ => subst h; rfl
  | some (e, some pos), ⟨l, u, h, _⟩ => subst h; rfl
theorem IsF.scal (h : IsF σ v f) {Rt : Type} (X : Option Rt) : A.scal v X = X := by
  match f, h with
  | none, h => subst h; rfl
  | some (e, none), ⟨_, _, k, h, _⟩ => subst h; rfl
  | some (e, some pos), ⟨l, u, h, _⟩ => subst h; rfl
theorem IsE.scal (h : IsE σ v e) {Rt : Type} (X : Option Rt) : A.scal v X = X := by
  obtain ⟨_, _, k, h, _⟩ := h; subst h; rfl
end
section
variable {R : Type} {σ : Heap} {v w : AVal} {e e' : Er} {f : Flt} {Q : R → Prop}
theorem W.eI (h : IsE σ v e) (k : IsE σ w e') {cn : Bool} {K : Bool → Option R} (c : W (K (decide (e = e'))) Q) : W (eqI (tiOf prg) σ cn v w K) Q := W.to (h.eqI k cn K) c
theorem W.fnil (h : IsF σ v f) {K : Bool → Option R} (c : W (K f.isNone) Q) : W (eqI (tiOf prg) σ true v .nili K) Q := W.to (h.nil K) c
theorem W.enil (h : IsE σ v e) {K : Bool → Option R} (c : W (K false) Q) : W (eqI (tiOf prg) σ true v .nili K) Q := by
  obtain ⟨_, _, k, h, _⟩ := h; subst h; exact c
theorem W.escal (h : IsE σ v e) {X : Option R} (c : W X Q) : W (scal v X) Q := W.to (h.scal X) c
theorem W.glob {E : List Er} (h : GlS E σ) (e : Er) {K : AVal → Option R} (c : ∀ v, IsE σ v e → W (K v) Q) {g : Nat} (hg : g = e.g := by rfl) (he : e ∈ E := by decide) : W (ld σ (.ptr g 0) .V K) Q := by
  subst hg
  obtain ⟨v, hv⟩ := h e he
  exact W.ld0 hv.at rfl (c v hv)
end
theorem alike_w {σ : Heap} {v w : AVal} {e e' : Er} (h : IsE σ v e) (k : IsE σ w e') : W (S.skolemsee_Alike v w σ) fun r => r = decide (e = e') := by
  unfold S.skolemsee_Alike
  repeat' (first | (with_reducible (first | refine W.next ?_ | refine W.stop ?_ | refine W.nextP ?_ | refine W.stopP ?_ | refine W.ret ?_ | refine W.bind ?_ | refine W.asI ?_ | refine W.asB ?_ | refine W.asV ?_ | refine W.asS ?_ | refine W.chk rfl ?_ | refine W.aggK (by with_unfolding_all rfl) ?_ | refine W.fldp ?_ | refine W.fldfld ?_ | refine W.lenN ?_ | refine W.len (by assumption) ?_ | refine W.len (SlV.mono (by assumption) (by assumption)) ?_ | refine W.ldL (by assumption) (by with_unfolding_all rfl) ?_ | refine W.ldp (by assumption) (by with_unfolding_all rfl) ?_ | refine W.ldGL (by assumption) (Nat.le_of_ble_eq_true (by with_unfolding_all rfl)) ?_ | refine W.fldld (by assumption) (by with_unfolding_all rfl) ?_ | refine W.ld0 (by assumption) (by with_unfolding_all rfl) ?_ | refine W.ldGG (by assumption) (by with_unfolding_all rfl) ?_ | refine W.ixIc (by assumption) (by assumption) ?_ | refine W.ixIc (SlV.mono (by assumption) (by assumption)) (by assumption) ?_ | refine W.ixBc (by assumption) (by assumption) ?_ | refine W.nnil ?_ | refine W.inil ?_ | refine W.scalS (by assumption) ?_ | refine W.scalS (SlV.mono (by assumption) (by assumption)) ?_ | refine W.nck ?_ | refine W.scI ?_ | refine W.scB ?_ | refine W.scP ?_ | refine W.scM ?_ | refine W.scN ?_ | refine W.scNp ?_ | refine W.scNi ?_ | refine W.scIf ?_ | refine W.scSl ?_ | refine W.putC (by with_unfolding_all rfl) ?_)) | (with_reducible refine W.condT ?_ ?_; focus (first | (simp only [q1, q2, q3, q4, q5, q6, q7, q8, q9, q10, q11, q12, q13, q14, q15, q16, q17, q18, q19, q20, q21, q22, q23, q24, q25, q26, q27, q28, q29, q30]; done) | (simp only [q1, q2, q3, q4, q5, q6, q7, q8, q9, q10, q11, q12, q13, q14, q15, q16, q17, q18, q19, q20, q21, q22, q23, q24, q25, q26, q27, q28, q29, q30]; omega) | assumption)) | (with_reducible refine W.condF ?_ ?_; focus (first | (simp only [q1, q2, q3, q4, q5, q6, q7, q8, q9, q10, q11, q12, q13, q14, q15, q16, q17, q18, q19, q20, q21, q22, q23, q24, q25, q26, q27, q28, q29, q30]; done) | (simp only [q1, q2, q3, q4, q5, q6, q7, q8, q9, q10, q11, q12, q13, q14, q15, q16, q17, q18, q19, q20, q21, q22, q23, q24, q25, q26, q27, q28, q29, q30]; omega) | assumption)) | refine W.enil (by assumption) ?_ | refine W.eI (by assumption) (by assumption) ?_)
  rfl

def vE : Vw Er := ⟨1, fun σ e us => ∃ x, us = [x] ∧ IsE σ x e, Nat.one_pos, fun h => by obtain ⟨_, rfl, _⟩ := h; rfl, fun L h => by
  obtain ⟨x, e, h⟩ := h
  exact ⟨x, e, h.mono L⟩⟩

theorem sentinel_w {σ : Heap} {v : AVal} {e : Er} (hg : GlAll σ) (h : IsE σ v e) : W (S.skolemsee_sentinel v σ) fun r => r.1 = e.code ∧ Hle σ r.2 := by
  unfold S.skolemsee_sentinel S.skolemsee_sentinels
  refine W.bind ?_
  refine W.glob hg .text fun v1 h1 => W.glob hg .limit fun v2 h2 => W.glob hg .budget fun v3 h3 => W.glob hg .range fun v4 h4 => W.glob hg .blocks fun v5 h5 => W.glob hg .proof fun v6 h6 => W.glob hg .cert fun v7 h7 => ?_
  refine W.escal h1 (W.escal h2 (W.escal h3 (W.escal h4 (W.escal h5 (W.escal h6 (W.escal h7 ?_))))))
  refine W.newg fun l τ hl L hA hgl hn => ?_
  repeat' (with_reducible (first | refine W.next ?_ | refine W.stop ?_ | refine W.nextP ?_ | refine W.stopP ?_ | refine W.ret ?_ | refine W.bind ?_ | refine W.asI ?_ | refine W.asB ?_ | refine W.asV ?_ | refine W.asS ?_ | refine W.chk rfl ?_ | refine W.aggK (by with_unfolding_all rfl) ?_ | refine W.fldp ?_ | refine W.fldfld ?_ | refine W.lenN ?_ | refine W.len (by assumption) ?_ | refine W.len (SlV.mono (by assumption) (by assumption)) ?_ | refine W.ldL (by assumption) (by with_unfolding_all rfl) ?_ | refine W.ldp (by assumption) (by with_unfolding_all rfl) ?_ | refine W.ldGL (by assumption) (Nat.le_of_ble_eq_true (by with_unfolding_all rfl)) ?_ | refine W.fldld (by assumption) (by with_unfolding_all rfl) ?_ | refine W.ld0 (by assumption) (by with_unfolding_all rfl) ?_ | refine W.ldGG (by assumption) (by with_unfolding_all rfl) ?_ | refine W.ixIc (by assumption) (by assumption) ?_ | refine W.ixIc (SlV.mono (by assumption) (by assumption)) (by assumption) ?_ | refine W.ixBc (by assumption) (by assumption) ?_ | refine W.nnil ?_ | refine W.inil ?_ | refine W.scalS (by assumption) ?_ | refine W.scalS (SlV.mono (by assumption) (by assumption)) ?_ | refine W.nck ?_ | refine W.scI ?_ | refine W.scB ?_ | refine W.scP ?_ | refine W.scM ?_ | refine W.scN ?_ | refine W.scNp ?_ | refine W.scNi ?_ | refine W.scIf ?_ | refine W.scSl ?_ | refine W.putC (by with_unfolding_all rfl) ?_))
  have hsl : SlV vE τ Er.all (.sl l 0 7 none) := .inr ⟨l, 0, none, .rw, _, rfl, by omega, hgl, Nat.le_of_ble_eq_true rfl, fun i u hi => by
    match i, hi with
    | 0, hi => cases hi; exact ⟨v1, rfl, h1.mono L⟩
    | 1, hi => cases hi; exact ⟨v2, rfl, h2.mono L⟩
    | 2, hi => cases hi; exact ⟨v3, rfl, h3.mono L⟩
    | 3, hi => cases hi; exact ⟨v4, rfl, h4.mono L⟩
    | 4, hi => cases hi; exact ⟨v5, rfl, h5.mono L⟩
    | 5, hi => cases hi; exact ⟨v6, rfl, h6.mono L⟩
    | 6, hi => cases hi; exact ⟨v7, rfl, h7.mono L⟩
    | k + 7, hi => simp [Er.all] at hi⟩
  replace h := h.mono L
  have hnx := L.next
  refine W.loopP 7 (fun i x => x = (i : Int) ∧ ∀ j u, j < i → Er.all[j]? = some u → e ≠ u) ⟨rfl, fun j u hj => by omega⟩ fun i x hi hI => ?_
  obtain ⟨rfl, hI⟩ := hI
  unfold S.skolemsee_sentinel.b0
  repeat' (first | (with_reducible (first | refine W.next ?_ | refine W.stop ?_ | refine W.nextP ?_ | refine W.stopP ?_ | refine W.ret ?_ | refine W.bind ?_ | refine W.asI ?_ | refine W.asB ?_ | refine W.asV ?_ | refine W.asS ?_ | refine W.chk rfl ?_ | refine W.aggK (by with_unfolding_all rfl) ?_ | refine W.fldp ?_ | refine W.fldfld ?_ | refine W.lenN ?_ | refine W.len (by assumption) ?_ | refine W.len (SlV.mono (by assumption) (by assumption)) ?_ | refine W.ldL (by assumption) (by with_unfolding_all rfl) ?_ | refine W.ldp (by assumption) (by with_unfolding_all rfl) ?_ | refine W.ldGL (by assumption) (Nat.le_of_ble_eq_true (by with_unfolding_all rfl)) ?_ | refine W.fldld (by assumption) (by with_unfolding_all rfl) ?_ | refine W.ld0 (by assumption) (by with_unfolding_all rfl) ?_ | refine W.ldGG (by assumption) (by with_unfolding_all rfl) ?_ | refine W.ixIc (by assumption) (by assumption) ?_ | refine W.ixIc (SlV.mono (by assumption) (by assumption)) (by assumption) ?_ | refine W.ixBc (by assumption) (by assumption) ?_ | refine W.nnil ?_ | refine W.inil ?_ | refine W.scalS (by assumption) ?_ | refine W.scalS (SlV.mono (by assumption) (by assumption)) ?_ | refine W.nck ?_ | refine W.scI ?_ | refine W.scB ?_ | refine W.scP ?_ | refine W.scM ?_ | refine W.scN ?_ | refine W.scNp ?_ | refine W.scNi ?_ | refine W.scIf ?_ | refine W.scSl ?_ | refine W.putC (by with_unfolding_all rfl) ?_)) | (with_reducible refine W.condT ?_ ?_; focus (first | (simp only [q1, q2, q3, q4, q5, q6, q7, q8, q9, q10, q11, q12, q13, q14, q15, q16, q17, q18, q19, q20, q21, q22, q23, q24, q25, q26, q27, q28, q29, q30]; done) | (simp only [q1, q2, q3, q4, q5, q6, q7, q8, q9, q10, q11, q12, q13, q14, q15, q16, q17, q18, q19, q20, q21, q22, q23, q24, q25, q26, q27, q28, q29, q30]; omega) | assumption)) | (with_reducible refine W.condF ?_ ?_; focus (first | (simp only [q1, q2, q3, q4, q5, q6, q7, q8, q9, q10, q11, q12, q13, q14, q15, q16, q17, q18, q19, q20, q21, q22, q23, q24, q25, q26, q27, q28, q29, q30]; done) | (simp only [q1, q2, q3, q4, q5, q6, q7, q8, q9, q10, q11, q12, q13, q14, q15, q16, q17, q18, q19, q20, q21, q22, q23, q24, q25, q26, q27, q28, q29, q30]; omega) | assumption)) | (with_reducible refine W.cnd (fun hc => ?_) (fun hc => ?_) <;> (try simp only [q1, q2, q3, q4, q5, q6, q7, q8, q9, q10, q11, q12, q13, q14, q15, q16, q17, q18, q19, q20, q21, q22, q23, q24, q25, q26, q27, q28, q29, q30] at hc) <;> (try (exfalso; omega))))
  · refine W.ixc hsl (by omega) fun p ps u hu hp hr => ?_
    obtain ⟨x, rfl, hx⟩ := hr
    repeat' (with_reducible (first | refine W.next ?_ | refine W.stop ?_ | refine W.nextP ?_ | refine W.stopP ?_ | refine W.ret ?_ | refine W.bind ?_ | refine W.asI ?_ | refine W.asB ?_ | refine W.asV ?_ | refine W.asS ?_ | refine W.chk rfl ?_ | refine W.aggK (by with_unfolding_all rfl) ?_ | refine W.fldp ?_ | refine W.fldfld ?_ | refine W.lenN ?_ | refine W.len (by assumption) ?_ | refine W.len (SlV.mono (by assumption) (by assumption)) ?_ | refine W.ldL (by assumption) (by with_unfolding_all rfl) ?_ | refine W.ldp (by assumption) (by with_unfolding_all rfl) ?_ | refine W.ldGL (by assumption) (Nat.le_of_ble_eq_true (by with_unfolding_all rfl)) ?_ | refine W.fldld (by assumption) (by with_unfolding_all rfl) ?_ | refine W.ld0 (by assumption) (by with_unfolding_all rfl) ?_ | refine W.ldGG (by assumption) (by with_unfolding_all rfl) ?_ | refine W.ixIc (by assumption) (by assumption) ?_ | refine W.ixIc (SlV.mono (by assumption) (by assumption)) (by assumption) ?_ | refine W.ixBc (by assumption) (by assumption) ?_ | refine W.nnil ?_ | refine W.inil ?_ | refine W.scalS (by assumption) ?_ | refine W.scalS (SlV.mono (by assumption) (by assumption)) ?_ | refine W.nck ?_ | refine W.scI ?_ | refine W.scB ?_ | refine W.scP ?_ | refine W.scM ?_ | refine W.scN ?_ | refine W.scNp ?_ | refine W.scNi ?_ | refine W.scIf ?_ | refine W.scSl ?_ | refine W.putC (by with_unfolding_all rfl) ?_))
    refine W.mono (alike_w h hx) fun r hr => ?_
    subst hr
    (with_reducible refine W.cnd (fun hq => ?_) (fun hq => ?_) <;> (try simp only [q1, q2, q3, q4, q5, q6, q7, q8, q9, q10, q11, q12, q13, q14, q15, q16, q17, q18, q19, q20, q21, q22, q23, q24, q25, q26, q27, q28, q29, q30] at hq) <;> (try (exfalso; omega)))
    · repeat' (with_reducible (first | refine W.next ?_ | refine W.stop ?_ | refine W.nextP ?_ | refine W.stopP ?_ | refine W.ret ?_ | refine W.bind ?_ | refine W.asI ?_ | refine W.asB ?_ | refine W.asV ?_ | refine W.asS ?_ | refine W.chk rfl ?_ | refine W.aggK (by with_unfolding_all rfl) ?_ | refine W.fldp ?_ | refine W.fldfld ?_ | refine W.lenN ?_ | refine W.len (by assumption) ?_ | refine W.len (SlV.mono (by assumption) (by assumption)) ?_ | refine W.ldL (by assumption) (by with_unfolding_all rfl) ?_ | refine W.ldp (by assumption) (by with_unfolding_all rfl) ?_ | refine W.ldGL (by assumption) (Nat.le_of_ble_eq_true (by with_unfolding_all rfl)) ?_ | refine W.fldld (by assumption) (by with_unfolding_all rfl) ?_ | refine W.ld0 (by assumption) (by with_unfolding_all rfl) ?_ | refine W.ldGG (by assumption) (by with_unfolding_all rfl) ?_ | refine W.ixIc (by assumption) (by assumption) ?_ | refine W.ixIc (SlV.mono (by assumption) (by assumption)) (by assumption) ?_ | refine W.ixBc (by assumption) (by assumption) ?_ | refine W.nnil ?_ | refine W.inil ?_ | refine W.scalS (by assumption) ?_ | refine W.scalS (SlV.mono (by assumption) (by assumption)) ?_ | refine W.nck ?_ | refine W.scI ?_ | refine W.scB ?_ | refine W.scP ?_ | refine W.scM ?_ | refine W.scN ?_ | refine W.scNp ?_ | refine W.scNi ?_ | refine W.scIf ?_ | refine W.scSl ?_ | refine W.putC (by with_unfolding_all rfl) ?_))
      subst hq
      refine ⟨?_, L⟩
      have : IntKind.i64.wrap (101 + (i : Int)) = 101 + i := by rw [wrapS] <;> omega
      rw [this]
      have : i < 7 := by simp [Er.all] at *; omega
      match i, hu with
      | 0, hu => cases hu; rfl
      | 1, hu => cases hu; rfl
      | 2, hu => cases hu; rfl
      | 3, hu => cases hu; rfl
      | 4, hu => cases hu; rfl
      | 5, hu => cases hu; rfl
      | 6, hu => cases hu; rfl
      | k + 7, hu => omega
    · repeat' (with_reducible (first | refine W.next ?_ | refine W.stop ?_ | refine W.nextP ?_ | refine W.stopP ?_ | refine W.ret ?_ | refine W.bind ?_ | refine W.asI ?_ | refine W.asB ?_ | refine W.asV ?_ | refine W.asS ?_ | refine W.chk rfl ?_ | refine W.aggK (by with_unfolding_all rfl) ?_ | refine W.fldp ?_ | refine W.fldfld ?_ | refine W.lenN ?_ | refine W.len (by assumption) ?_ | refine W.len (SlV.mono (by assumption) (by assumption)) ?_ | refine W.ldL (by assumption) (by with_unfolding_all rfl) ?_ | refine W.ldp (by assumption) (by with_unfolding_all rfl) ?_ | refine W.ldGL (by assumption) (Nat.le_of_ble_eq_true (by with_unfolding_all rfl)) ?_ | refine W.fldld (by assumption) (by with_unfolding_all rfl) ?_ | refine W.ld0 (by assumption) (by with_unfolding_all rfl) ?_ | refine W.ldGG (by assumption) (by with_unfolding_all rfl) ?_ | refine W.ixIc (by assumption) (by assumption) ?_ | refine W.ixIc (SlV.mono (by assumption) (by assumption)) (by assumption) ?_ | refine W.ixBc (by assumption) (by assumption) ?_ | refine W.nnil ?_ | refine W.inil ?_ | refine W.scalS (by assumption) ?_ | refine W.scalS (SlV.mono (by assumption) (by assumption)) ?_ | refine W.nck ?_ | refine W.scI ?_ | refine W.scB ?_ | refine W.scP ?_ | refine W.scM ?_ | refine W.scN ?_ | refine W.scNp ?_ | refine W.scNi ?_ | refine W.scIf ?_ | refine W.scSl ?_ | refine W.putC (by with_unfolding_all rfl) ?_))
      have w2 : IntKind.i64.wrap ((i : Int) + 1) = ((i + 1 : Nat) : Int) := by rw [wrapS] <;> omega
      have : i < 7 := by simp [Er.all] at *; omega
      refine ⟨this, w2, fun j u' hj hu' he => ?_⟩
      rcases Nat.lt_succ_iff_lt_or_eq.1 hj with hj | rfl
      · exact hI j u' hj hu' he
      · rw [hu] at hu'; cases hu'; exact hq he
  · exfalso
    have h7 : i = 7 := by simp [Er.all] at hc; omega
    subst h7
    cases e
    · exact hI 0 _ (by omega) rfl rfl
    · exact hI 1 _ (by omega) rfl rfl
    · exact hI 2 _ (by omega) rfl rfl
    · exact hI 3 _ (by omega) rfl rfl
    · exact hI 4 _ (by omega) rfl rfl
    · exact hI 5 _ (by omega) rfl rfl
    · exact hI 6 _ (by omega) rfl rfl

theorem none_w {σ : Heap} : W (S.skolemref_None σ) fun r => r.1 = .agg (fcells none) ∧ Hle σ r.2 := by
  unfold S.skolemref_None
  refine W.new fun l τ hl L h hnτ => ?_
  refine W.st0 h (by rfl) fun τ2 L2 hnτ2 h => ?_
  repeat' (with_reducible (first | refine W.next ?_ | refine W.stop ?_ | refine W.nextP ?_ | refine W.stopP ?_ | refine W.ret ?_ | refine W.bind ?_ | refine W.asI ?_ | refine W.asB ?_ | refine W.asV ?_ | refine W.asS ?_ | refine W.chk rfl ?_ | refine W.aggK (by with_unfolding_all rfl) ?_ | refine W.fldp ?_ | refine W.fldfld ?_ | refine W.lenN ?_ | refine W.len (by assumption) ?_ | refine W.len (SlV.mono (by assumption) (by assumption)) ?_ | refine W.ldL (by assumption) (by with_unfolding_all rfl) ?_ | refine W.ldp (by assumption) (by with_unfolding_all rfl) ?_ | refine W.ldGL (by assumption) (Nat.le_of_ble_eq_true (by with_unfolding_all rfl)) ?_ | refine W.fldld (by assumption) (by with_unfolding_all rfl) ?_ | refine W.ld0 (by assumption) (by with_unfolding_all rfl) ?_ | refine W.ldGG (by assumption) (by with_unfolding_all rfl) ?_ | refine W.ixIc (by assumption) (by assumption) ?_ | refine W.ixIc (SlV.mono (by assumption) (by assumption)) (by assumption) ?_ | refine W.ixBc (by assumption) (by assumption) ?_ | refine W.nnil ?_ | refine W.inil ?_ | refine W.scalS (by assumption) ?_ | refine W.scalS (SlV.mono (by assumption) (by assumption)) ?_ | refine W.nck ?_ | refine W.scI ?_ | refine W.scB ?_ | refine W.scP ?_ | refine W.scM ?_ | refine W.scN ?_ | refine W.scNp ?_ | refine W.scNi ?_ | refine W.scIf ?_ | refine W.scSl ?_ | refine W.putC (by with_unfolding_all rfl) ?_))
  exact ⟨rfl, L.ofk (by omega) L2⟩
theorem bare_w {σ : Heap} {n : Int} : W (S.skolemref_Bare n σ) fun r => r.1 = .agg [.int .i64 n, .bool false, .int .i64 0] ∧ Hle σ r.2 := by
  unfold S.skolemref_Bare
  refine W.new fun l τ hl L h hnτ => ?_
  refine W.st0 h (by rfl) fun τ2 L2 hnτ2 h => ?_
  repeat' (with_reducible (first | refine W.next ?_ | refine W.stop ?_ | refine W.nextP ?_ | refine W.stopP ?_ | refine W.ret ?_ | refine W.bind ?_ | refine W.asI ?_ | refine W.asB ?_ | refine W.asV ?_ | refine W.asS ?_ | refine W.chk rfl ?_ | refine W.aggK (by with_unfolding_all rfl) ?_ | refine W.fldp ?_ | refine W.fldfld ?_ | refine W.lenN ?_ | refine W.len (by assumption) ?_ | refine W.len (SlV.mono (by assumption) (by assumption)) ?_ | refine W.ldL (by assumption) (by with_unfolding_all rfl) ?_ | refine W.ldp (by assumption) (by with_unfolding_all rfl) ?_ | refine W.ldGL (by assumption) (Nat.le_of_ble_eq_true (by with_unfolding_all rfl)) ?_ | refine W.fldld (by assumption) (by with_unfolding_all rfl) ?_ | refine W.ld0 (by assumption) (by with_unfolding_all rfl) ?_ | refine W.ldGG (by assumption) (by with_unfolding_all rfl) ?_ | refine W.ixIc (by assumption) (by assumption) ?_ | refine W.ixIc (SlV.mono (by assumption) (by assumption)) (by assumption) ?_ | refine W.ixBc (by assumption) (by assumption) ?_ | refine W.nnil ?_ | refine W.inil ?_ | refine W.scalS (by assumption) ?_ | refine W.scalS (SlV.mono (by assumption) (by assumption)) ?_ | refine W.nck ?_ | refine W.scI ?_ | refine W.scB ?_ | refine W.scP ?_ | refine W.scM ?_ | refine W.scN ?_ | refine W.scNp ?_ | refine W.scNi ?_ | refine W.scIf ?_ | refine W.scSl ?_ | refine W.putC (by with_unfolding_all rfl) ?_))
  exact ⟨rfl, L.ofk (by omega) L2⟩
theorem placed_w {σ : Heap} {n p : Int} (hn : n ≠ 0) : W (S.skolemref_Placed n p σ) fun r => r.1 = .agg [.int .i64 n, .bool true, .int .i64 p] ∧ Hle σ r.2 := by
  unfold S.skolemref_Placed
  refine W.new fun l τ hl L h hnτ => ?_
  (with_reducible refine W.cnd (fun hc => ?_) (fun hc => ?_) <;> (try simp only [q1, q2, q3, q4, q5, q6, q7, q8, q9, q10, q11, q12, q13, q14, q15, q16, q17, q18, q19, q20, q21, q22, q23, q24, q25, q26, q27, q28, q29, q30] at hc) <;> (try (exfalso; omega)))
  refine W.st0 h (by rfl) fun τ2 L2 hnτ2 h => ?_
  repeat' (with_reducible (first | refine W.next ?_ | refine W.stop ?_ | refine W.nextP ?_ | refine W.stopP ?_ | refine W.ret ?_ | refine W.bind ?_ | refine W.asI ?_ | refine W.asB ?_ | refine W.asV ?_ | refine W.asS ?_ | refine W.chk rfl ?_ | refine W.aggK (by with_unfolding_all rfl) ?_ | refine W.fldp ?_ | refine W.fldfld ?_ | refine W.lenN ?_ | refine W.len (by assumption) ?_ | refine W.len (SlV.mono (by assumption) (by assumption)) ?_ | refine W.ldL (by assumption) (by with_unfolding_all rfl) ?_ | refine W.ldp (by assumption) (by with_unfolding_all rfl) ?_ | refine W.ldGL (by assumption) (Nat.le_of_ble_eq_true (by with_unfolding_all rfl)) ?_ | refine W.fldld (by assumption) (by with_unfolding_all rfl) ?_ | refine W.ld0 (by assumption) (by with_unfolding_all rfl) ?_ | refine W.ldGG (by assumption) (by with_unfolding_all rfl) ?_ | refine W.ixIc (by assumption) (by assumption) ?_ | refine W.ixIc (SlV.mono (by assumption) (by assumption)) (by assumption) ?_ | refine W.ixBc (by assumption) (by assumption) ?_ | refine W.nnil ?_ | refine W.inil ?_ | refine W.scalS (by assumption) ?_ | refine W.scalS (SlV.mono (by assumption) (by assumption)) ?_ | refine W.nck ?_ | refine W.scI ?_ | refine W.scB ?_ | refine W.scP ?_ | refine W.scM ?_ | refine W.scN ?_ | refine W.scNp ?_ | refine W.scNi ?_ | refine W.scIf ?_ | refine W.scSl ?_ | refine W.putC (by with_unfolding_all rfl) ?_))
  exact ⟨rfl, L.ofk (by omega) L2⟩
theorem Er.code_ne (e : Er) : e.code ≠ 0 := by cases e <;> decide
theorem fault_w {σ : Heap} {v : AVal} {f : Flt} (hg : GlAll σ) (h : IsF σ v f) : W (S.skolemsee_Fault v σ) fun r => r.1 = .agg (fcells f) ∧ Hle σ r.2 := by
  unfold S.skolemsee_Fault
  refine W.new fun l τ hl L hl hnτ => ?_
  replace h := h.mono L
  replace hg := hg.mono L
  have hnx := L.next
  refine W.fnil h ?_
  match f, h with
  | none, h =>
    refine W.cnd (fun _ => ?_) (fun hc => by cases hc)
    refine W.call none_w fun r ⟨hr, L2⟩ => ?_
    obtain ⟨r, τ2⟩ := r
    simp only at hr L2; subst hr
    replace hl := hl.mono L2
    have hnx := L2.next
    repeat' (with_reducible (first | refine W.next ?_ | refine W.stop ?_ | refine W.nextP ?_ | refine W.stopP ?_ | refine W.ret ?_ | refine W.bind ?_ | refine W.asI ?_ | refine W.asB ?_ | refine W.asV ?_ | refine W.asS ?_ | refine W.chk rfl ?_ | refine W.aggK (by with_unfolding_all rfl) ?_ | refine W.fldp ?_ | refine W.fldfld ?_ | refine W.lenN ?_ | refine W.len (by assumption) ?_ | refine W.len (SlV.mono (by assumption) (by assumption)) ?_ | refine W.ldL (by assumption) (by with_unfolding_all rfl) ?_ | refine W.ldp (by assumption) (by with_unfolding_all rfl) ?_ | refine W.ldGL (by assumption) (Nat.le_of_ble_eq_true (by with_unfolding_all rfl)) ?_ | refine W.fldld (by assumption) (by with_unfolding_all rfl) ?_ | refine W.ld0 (by assumption) (by with_unfolding_all rfl) ?_ | refine W.ldGG (by assumption) (by with_unfolding_all rfl) ?_ | refine W.ixIc (by assumption) (by assumption) ?_ | refine W.ixIc (SlV.mono (by assumption) (by assumption)) (by assumption) ?_ | refine W.ixBc (by assumption) (by assumption) ?_ | refine W.nnil ?_ | refine W.inil ?_ | refine W.scalS (by assumption) ?_ | refine W.scalS (SlV.mono (by assumption) (by assumption)) ?_ | refine W.nck ?_ | refine W.scI ?_ | refine W.scB ?_ | refine W.scP ?_ | refine W.scM ?_ | refine W.scN ?_ | refine W.scNp ?_ | refine W.scNi ?_ | refine W.scIf ?_ | refine W.scSl ?_ | refine W.putC (by with_unfolding_all rfl) ?_))
    refine W.st0 hl (by rfl) fun τ3 L3 hnτ3 hl => ?_
    repeat' (with_reducible (first | refine W.next ?_ | refine W.stop ?_ | refine W.nextP ?_ | refine W.stopP ?_ | refine W.ret ?_ | refine W.bind ?_ | refine W.asI ?_ | refine W.asB ?_ | refine W.asV ?_ | refine W.asS ?_ | refine W.chk rfl ?_ | refine W.aggK (by with_unfolding_all rfl) ?_ | refine W.fldp ?_ | refine W.fldfld ?_ | refine W.lenN ?_ | refine W.len (by assumption) ?_ | refine W.len (SlV.mono (by assumption) (by assumption)) ?_ | refine W.ldL (by assumption) (by with_unfolding_all rfl) ?_ | refine W.ldp (by assumption) (by with_unfolding_all rfl) ?_ | refine W.ldGL (by assumption) (Nat.le_of_ble_eq_true (by with_unfolding_all rfl)) ?_ | refine W.fldld (by assumption) (by with_unfolding_all rfl) ?_ | refine W.ld0 (by assumption) (by with_unfolding_all rfl) ?_ | refine W.ldGG (by assumption) (by with_unfolding_all rfl) ?_ | refine W.ixIc (by assumption) (by assumption) ?_ | refine W.ixIc (SlV.mono (by assumption) (by assumption)) (by assumption) ?_ | refine W.ixBc (by assumption) (by assumption) ?_ | refine W.nnil ?_ | refine W.inil ?_ | refine W.scalS (by assumption) ?_ | refine W.scalS (SlV.mono (by assumption) (by assumption)) ?_ | refine W.nck ?_ | refine W.scI ?_ | refine W.scB ?_ | refine W.scP ?_ | refine W.scM ?_ | refine W.scN ?_ | refine W.scNp ?_ | refine W.scNi ?_ | refine W.scIf ?_ | refine W.scSl ?_ | refine W.putC (by with_unfolding_all rfl) ?_))
    exact ⟨rfl, (L.mono L2).ofk (by omega) L3⟩
  | some (e, none), h =>
    refine W.cnd (fun hc => by cases hc) (fun _ => ?_)
    have he : IsE τ v e := h
    obtain ⟨_, _, k, rfl, _⟩ := id he
    simp only [assertZ, assertK]
    rw [if_neg (by decide)]
    simp only [Bool.not_false, cond_true]
    refine W.call (sentinel_w hg he) fun r ⟨hr, L2⟩ => ?_
    obtain ⟨r, τ2⟩ := r
    simp only at hr L2; subst hr
    replace hl := hl.mono L2
    have hnx := L2.next
    refine W.call bare_w fun r ⟨hr, L3⟩ => ?_
    obtain ⟨r, τ3⟩ := r
    simp only at hr L3; subst hr
    replace hl := hl.mono L3
    have hnx := L3.next
    repeat' (with_reducible (first | refine W.next ?_ | refine W.stop ?_ | refine W.nextP ?_ | refine W.stopP ?_ | refine W.ret ?_ | refine W.bind ?_ | refine W.asI ?_ | refine W.asB ?_ | refine W.asV ?_ | refine W.asS ?_ | refine W.chk rfl ?_ | refine W.aggK (by with_unfolding_all rfl) ?_ | refine W.fldp ?_ | refine W.fldfld ?_ | refine W.lenN ?_ | refine W.len (by assumption) ?_ | refine W.len (SlV.mono (by assumption) (by assumption)) ?_ | refine W.ldL (by assumption) (by with_unfolding_all rfl) ?_ | refine W.ldp (by assumption) (by with_unfolding_all rfl) ?_ | refine W.ldGL (by assumption) (Nat.le_of_ble_eq_true (by with_unfolding_all rfl)) ?_ | refine W.fldld (by assumption) (by with_unfolding_all rfl) ?_ | refine W.ld0 (by assumption) (by with_unfolding_all rfl) ?_ | refine W.ldGG (by assumption) (by with_unfolding_all rfl) ?_ | refine W.ixIc (by assumption) (by assumption) ?_ | refine W.ixIc (SlV.mono (by assumption) (by assumption)) (by assumption) ?_ | refine W.ixBc (by assumption) (by assumption) ?_ | refine W.nnil ?_ | refine W.inil ?_ | refine W.scalS (by assumption) ?_ | refine W.scalS (SlV.mono (by assumption) (by assumption)) ?_ | refine W.nck ?_ | refine W.scI ?_ | refine W.scB ?_ | refine W.scP ?_ | refine W.scM ?_ | refine W.scN ?_ | refine W.scNp ?_ | refine W.scNi ?_ | refine W.scIf ?_ | refine W.scSl ?_ | refine W.putC (by with_unfolding_all rfl) ?_))
    refine W.st0 hl (by rfl) fun τ4 L4 hnτ4 hl => ?_
    repeat' (with_reducible (first | refine W.next ?_ | refine W.stop ?_ | refine W.nextP ?_ | refine W.stopP ?_ | refine W.ret ?_ | refine W.bind ?_ | refine W.asI ?_ | refine W.asB ?_ | refine W.asV ?_ | refine W.asS ?_ | refine W.chk rfl ?_ | refine W.aggK (by with_unfolding_all rfl) ?_ | refine W.fldp ?_ | refine W.fldfld ?_ | refine W.lenN ?_ | refine W.len (by assumption) ?_ | refine W.len (SlV.mono (by assumption) (by assumption)) ?_ | refine W.ldL (by assumption) (by with_unfolding_all rfl) ?_ | refine W.ldp (by assumption) (by with_unfolding_all rfl) ?_ | refine W.ldGL (by assumption) (Nat.le_of_ble_eq_true (by with_unfolding_all rfl)) ?_ | refine W.fldld (by assumption) (by with_unfolding_all rfl) ?_ | refine W.ld0 (by assumption) (by with_unfolding_all rfl) ?_ | refine W.ldGG (by assumption) (by with_unfolding_all rfl) ?_ | refine W.ixIc (by assumption) (by assumption) ?_ | refine W.ixIc (SlV.mono (by assumption) (by assumption)) (by assumption) ?_ | refine W.ixBc (by assumption) (by assumption) ?_ | refine W.nnil ?_ | refine W.inil ?_ | refine W.scalS (by assumption) ?_ | refine W.scalS (SlV.mono (by assumption) (by assumption)) ?_ | refine W.nck ?_ | refine W.scI ?_ | refine W.scB ?_ | refine W.scP ?_ | refine W.scM ?_ | refine W.scN ?_ | refine W.scNp ?_ | refine W.scNi ?_ | refine W.scIf ?_ | refine W.scSl ?_ | refine W.putC (by with_unfolding_all rfl) ?_))
    exact ⟨rfl, ((L.mono L2).mono L3).ofk (by omega) L4⟩
  | some (e, some pos), h =>
    obtain ⟨k, u, rfl, hk, he⟩ := h
    refine W.cnd (fun hc => by cases hc) (fun _ => ?_)
    simp only [assertZ, assertK]
    rw [if_pos (by decide)]
    simp only [Bool.not_true, cond_false, eqP, nilck]
    repeat' (first | (with_reducible (first | refine W.next ?_ | refine W.stop ?_ | refine W.nextP ?_ | refine W.stopP ?_ | refine W.ret ?_ | refine W.bind ?_ | refine W.asI ?_ | refine W.asB ?_ | refine W.asV ?_ | refine W.asS ?_ | refine W.chk rfl ?_ | refine W.aggK (by with_unfolding_all rfl) ?_ | refine W.fldp ?_ | refine W.fldfld ?_ | refine W.lenN ?_ | refine W.len (by assumption) ?_ | refine W.len (SlV.mono (by assumption) (by assumption)) ?_ | refine W.ldL (by assumption) (by with_unfolding_all rfl) ?_ | refine W.ldp (by assumption) (by with_unfolding_all rfl) ?_ | refine W.ldGL (by assumption) (Nat.le_of_ble_eq_true (by with_unfolding_all rfl)) ?_ | refine W.fldld (by assumption) (by with_unfolding_all rfl) ?_ | refine W.ld0 (by assumption) (by with_unfolding_all rfl) ?_ | refine W.ldGG (by assumption) (by with_unfolding_all rfl) ?_ | refine W.ixIc (by assumption) (by assumption) ?_ | refine W.ixIc (SlV.mono (by assumption) (by assumption)) (by assumption) ?_ | refine W.ixBc (by assumption) (by assumption) ?_ | refine W.nnil ?_ | refine W.inil ?_ | refine W.scalS (by assumption) ?_ | refine W.scalS (SlV.mono (by assumption) (by assumption)) ?_ | refine W.nck ?_ | refine W.scI ?_ | refine W.scB ?_ | refine W.scP ?_ | refine W.scM ?_ | refine W.scN ?_ | refine W.scNp ?_ | refine W.scNi ?_ | refine W.scIf ?_ | refine W.scSl ?_ | refine W.putC (by with_unfolding_all rfl) ?_)) | (with_reducible refine W.condT ?_ ?_; focus (first | (simp only [q1, q2, q3, q4, q5, q6, q7, q8, q9, q10, q11, q12, q13, q14, q15, q16, q17, q18, q19, q20, q21, q22, q23, q24, q25, q26, q27, q28, q29, q30]; done) | (simp only [q1, q2, q3, q4, q5, q6, q7, q8, q9, q10, q11, q12, q13, q14, q15, q16, q17, q18, q19, q20, q21, q22, q23, q24, q25, q26, q27, q28, q29, q30]; omega) | assumption)) | (with_reducible refine W.condF ?_ ?_; focus (first | (simp only [q1, q2, q3, q4, q5, q6, q7, q8, q9, q10, q11, q12, q13, q14, q15, q16, q17, q18, q19, q20, q21, q22, q23, q24, q25, q26, q27, q28, q29, q30]; done) | (simp only [q1, q2, q3, q4, q5, q6, q7, q8, q9, q10, q11, q12, q13, q14, q15, q16, q17, q18, q19, q20, q21, q22, q23, q24, q25, q26, q27, q28, q29, q30]; omega) | assumption)) | refine W.enil he ?_)
    repeat' (with_reducible (first | refine W.next ?_ | refine W.stop ?_ | refine W.nextP ?_ | refine W.stopP ?_ | refine W.ret ?_ | refine W.bind ?_ | refine W.asI ?_ | refine W.asB ?_ | refine W.asV ?_ | refine W.asS ?_ | refine W.chk rfl ?_ | refine W.aggK (by with_unfolding_all rfl) ?_ | refine W.fldp ?_ | refine W.fldfld ?_ | refine W.lenN ?_ | refine W.len (by assumption) ?_ | refine W.len (SlV.mono (by assumption) (by assumption)) ?_ | refine W.ldL (by assumption) (by with_unfolding_all rfl) ?_ | refine W.ldp (by assumption) (by with_unfolding_all rfl) ?_ | refine W.ldGL (by assumption) (Nat.le_of_ble_eq_true (by with_unfolding_all rfl)) ?_ | refine W.fldld (by assumption) (by with_unfolding_all rfl) ?_ | refine W.ld0 (by assumption) (by with_unfolding_all rfl) ?_ | refine W.ldGG (by assumption) (by with_unfolding_all rfl) ?_ | refine W.ixIc (by assumption) (by assumption) ?_ | refine W.ixIc (SlV.mono (by assumption) (by assumption)) (by assumption) ?_ | refine W.ixBc (by assumption) (by assumption) ?_ | refine W.nnil ?_ | refine W.inil ?_ | refine W.scalS (by assumption) ?_ | refine W.scalS (SlV.mono (by assumption) (by assumption)) ?_ | refine W.nck ?_ | refine W.scI ?_ | refine W.scB ?_ | refine W.scP ?_ | refine W.scM ?_ | refine W.scN ?_ | refine W.scNp ?_ | refine W.scNi ?_ | refine W.scIf ?_ | refine W.scSl ?_ | refine W.putC (by with_unfolding_all rfl) ?_))
    refine W.mono (sentinel_w hg he) fun r ⟨hr, L2⟩ => ?_
    obtain ⟨r, τ2⟩ := r
    simp only at hr L2; subst hr
    have hk2 := hk.mono L2
    replace hl := hl.mono L2
    have hnx := L2.next
    repeat' (with_reducible (first | refine W.next ?_ | refine W.stop ?_ | refine W.nextP ?_ | refine W.stopP ?_ | refine W.ret ?_ | refine W.bind ?_ | refine W.asI ?_ | refine W.asB ?_ | refine W.asV ?_ | refine W.asS ?_ | refine W.chk rfl ?_ | refine W.aggK (by with_unfolding_all rfl) ?_ | refine W.fldp ?_ | refine W.fldfld ?_ | refine W.lenN ?_ | refine W.len (by assumption) ?_ | refine W.len (SlV.mono (by assumption) (by assumption)) ?_ | refine W.ldL (by assumption) (by with_unfolding_all rfl) ?_ | refine W.ldp (by assumption) (by with_unfolding_all rfl) ?_ | refine W.ldGL (by assumption) (Nat.le_of_ble_eq_true (by with_unfolding_all rfl)) ?_ | refine W.fldld (by assumption) (by with_unfolding_all rfl) ?_ | refine W.ld0 (by assumption) (by with_unfolding_all rfl) ?_ | refine W.ldGG (by assumption) (by with_unfolding_all rfl) ?_ | refine W.ixIc (by assumption) (by assumption) ?_ | refine W.ixIc (SlV.mono (by assumption) (by assumption)) (by assumption) ?_ | refine W.ixBc (by assumption) (by assumption) ?_ | refine W.nnil ?_ | refine W.inil ?_ | refine W.scalS (by assumption) ?_ | refine W.scalS (SlV.mono (by assumption) (by assumption)) ?_ | refine W.nck ?_ | refine W.scI ?_ | refine W.scB ?_ | refine W.scP ?_ | refine W.scM ?_ | refine W.scN ?_ | refine W.scNp ?_ | refine W.scNi ?_ | refine W.scIf ?_ | refine W.scSl ?_ | refine W.putC (by with_unfolding_all rfl) ?_))
    refine W.mono (placed_w e.code_ne) fun r ⟨hr, L3⟩ => ?_
    obtain ⟨r, τ3⟩ := r
    simp only at hr L3; subst hr
    replace hl := hl.mono L3
    have hnx := L3.next
    repeat' (with_reducible (first | refine W.next ?_ | refine W.stop ?_ | refine W.nextP ?_ | refine W.stopP ?_ | refine W.ret ?_ | refine W.bind ?_ | refine W.asI ?_ | refine W.asB ?_ | refine W.asV ?_ | refine W.asS ?_ | refine W.chk rfl ?_ | refine W.aggK (by with_unfolding_all rfl) ?_ | refine W.fldp ?_ | refine W.fldfld ?_ | refine W.lenN ?_ | refine W.len (by assumption) ?_ | refine W.len (SlV.mono (by assumption) (by assumption)) ?_ | refine W.ldL (by assumption) (by with_unfolding_all rfl) ?_ | refine W.ldp (by assumption) (by with_unfolding_all rfl) ?_ | refine W.ldGL (by assumption) (Nat.le_of_ble_eq_true (by with_unfolding_all rfl)) ?_ | refine W.fldld (by assumption) (by with_unfolding_all rfl) ?_ | refine W.ld0 (by assumption) (by with_unfolding_all rfl) ?_ | refine W.ldGG (by assumption) (by with_unfolding_all rfl) ?_ | refine W.ixIc (by assumption) (by assumption) ?_ | refine W.ixIc (SlV.mono (by assumption) (by assumption)) (by assumption) ?_ | refine W.ixBc (by assumption) (by assumption) ?_ | refine W.nnil ?_ | refine W.inil ?_ | refine W.scalS (by assumption) ?_ | refine W.scalS (SlV.mono (by assumption) (by assumption)) ?_ | refine W.nck ?_ | refine W.scI ?_ | refine W.scB ?_ | refine W.scP ?_ | refine W.scM ?_ | refine W.scN ?_ | refine W.scNp ?_ | refine W.scNi ?_ | refine W.scIf ?_ | refine W.scSl ?_ | refine W.putC (by with_unfolding_all rfl) ?_))
    refine W.st0 hl (by rfl) fun τ4 L4 hnτ4 hl => ?_
    repeat' (with_reducible (first | refine W.next ?_ | refine W.stop ?_ | refine W.nextP ?_ | refine W.stopP ?_ | refine W.ret ?_ | refine W.bind ?_ | refine W.asI ?_ | refine W.asB ?_ | refine W.asV ?_ | refine W.asS ?_ | refine W.chk rfl ?_ | refine W.aggK (by with_unfolding_all rfl) ?_ | refine W.fldp ?_ | refine W.fldfld ?_ | refine W.lenN ?_ | refine W.len (by assumption) ?_ | refine W.len (SlV.mono (by assumption) (by assumption)) ?_ | refine W.ldL (by assumption) (by with_unfolding_all rfl) ?_ | refine W.ldp (by assumption) (by with_unfolding_all rfl) ?_ | refine W.ldGL (by assumption) (Nat.le_of_ble_eq_true (by with_unfolding_all rfl)) ?_ | refine W.fldld (by assumption) (by with_unfolding_all rfl) ?_ | refine W.ld0 (by assumption) (by with_unfolding_all rfl) ?_ | refine W.ldGG (by assumption) (by with_unfolding_all rfl) ?_ | refine W.ixIc (by assumption) (by assumption) ?_ | refine W.ixIc (SlV.mono (by assumption) (by assumption)) (by assumption) ?_ | refine W.ixBc (by assumption) (by assumption) ?_ | refine W.nnil ?_ | refine W.inil ?_ | refine W.scalS (by assumption) ?_ | refine W.scalS (SlV.mono (by assumption) (by assumption)) ?_ | refine W.nck ?_ | refine W.scI ?_ | refine W.scB ?_ | refine W.scP ?_ | refine W.scM ?_ | refine W.scN ?_ | refine W.scNp ?_ | refine W.scNi ?_ | refine W.scIf ?_ | refine W.scSl ?_ | refine W.putC (by with_unfolding_all rfl) ?_))
    exact ⟨rfl, ((L.mono L2).mono L3).ofk (by omega) L4⟩
theorem sameFault_w {σ : Heap} {a b : Int} {p q : Bool} {x y : Int} : W (S.skolemref_SameFault (.agg [.int .i64 a, .bool p, .int .i64 x]) (.agg [.int .i64 b, .bool q, .int .i64 y]) σ) fun r => r.1 = (decide (a = b) && decide (p = q) && decide (x = y)) ∧ Hle σ r.2 := by
  unfold S.skolemref_SameFault
  repeat' (with_reducible (first | refine W.next ?_ | refine W.stop ?_ | refine W.nextP ?_ | refine W.stopP ?_ | refine W.ret ?_ | refine W.bind ?_ | refine W.asI ?_ | refine W.asB ?_ | refine W.asV ?_ | refine W.asS ?_ | refine W.chk rfl ?_ | refine W.aggK (by with_unfolding_all rfl) ?_ | refine W.fldp ?_ | refine W.fldfld ?_ | refine W.lenN ?_ | refine W.len (by assumption) ?_ | refine W.len (SlV.mono (by assumption) (by assumption)) ?_ | refine W.ldL (by assumption) (by with_unfolding_all rfl) ?_ | refine W.ldp (by assumption) (by with_unfolding_all rfl) ?_ | refine W.ldGL (by assumption) (Nat.le_of_ble_eq_true (by with_unfolding_all rfl)) ?_ | refine W.fldld (by assumption) (by with_unfolding_all rfl) ?_ | refine W.ld0 (by assumption) (by with_unfolding_all rfl) ?_ | refine W.ldGG (by assumption) (by with_unfolding_all rfl) ?_ | refine W.ixIc (by assumption) (by assumption) ?_ | refine W.ixIc (SlV.mono (by assumption) (by assumption)) (by assumption) ?_ | refine W.ixBc (by assumption) (by assumption) ?_ | refine W.nnil ?_ | refine W.inil ?_ | refine W.scalS (by assumption) ?_ | refine W.scalS (SlV.mono (by assumption) (by assumption)) ?_ | refine W.nck ?_ | refine W.scI ?_ | refine W.scB ?_ | refine W.scP ?_ | refine W.scM ?_ | refine W.scN ?_ | refine W.scNp ?_ | refine W.scNi ?_ | refine W.scIf ?_ | refine W.scSl ?_ | refine W.putC (by with_unfolding_all rfl) ?_))
  refine W.new fun l τ hl L h hnτ => ?_
  repeat' (with_reducible (first | refine W.next ?_ | refine W.stop ?_ | refine W.nextP ?_ | refine W.stopP ?_ | refine W.ret ?_ | refine W.bind ?_ | refine W.asI ?_ | refine W.asB ?_ | refine W.asV ?_ | refine W.asS ?_ | refine W.chk rfl ?_ | refine W.aggK (by with_unfolding_all rfl) ?_ | refine W.fldp ?_ | refine W.fldfld ?_ | refine W.lenN ?_ | refine W.len (by assumption) ?_ | refine W.len (SlV.mono (by assumption) (by assumption)) ?_ | refine W.ldL (by assumption) (by with_unfolding_all rfl) ?_ | refine W.ldp (by assumption) (by with_unfolding_all rfl) ?_ | refine W.ldGL (by assumption) (Nat.le_of_ble_eq_true (by with_unfolding_all rfl)) ?_ | refine W.fldld (by assumption) (by with_unfolding_all rfl) ?_ | refine W.ld0 (by assumption) (by with_unfolding_all rfl) ?_ | refine W.ldGG (by assumption) (by with_unfolding_all rfl) ?_ | refine W.ixIc (by assumption) (by assumption) ?_ | refine W.ixIc (SlV.mono (by assumption) (by assumption)) (by assumption) ?_ | refine W.ixBc (by assumption) (by assumption) ?_ | refine W.nnil ?_ | refine W.inil ?_ | refine W.scalS (by assumption) ?_ | refine W.scalS (SlV.mono (by assumption) (by assumption)) ?_ | refine W.nck ?_ | refine W.scI ?_ | refine W.scB ?_ | refine W.scP ?_ | refine W.scM ?_ | refine W.scN ?_ | refine W.scNp ?_ | refine W.scNi ?_ | refine W.scIf ?_ | refine W.scSl ?_ | refine W.putC (by with_unfolding_all rfl) ?_))
  refine W.new fun k τ2 hk L2 h2 hnτ2 => ?_
  replace h := h.mono L2
  have hnx := L2.next
  repeat' (first | (with_reducible (first | refine W.next ?_ | refine W.stop ?_ | refine W.nextP ?_ | refine W.stopP ?_ | refine W.ret ?_ | refine W.bind ?_ | refine W.asI ?_ | refine W.asB ?_ | refine W.asV ?_ | refine W.asS ?_ | refine W.chk rfl ?_ | refine W.aggK (by with_unfolding_all rfl) ?_ | refine W.fldp ?_ | refine W.fldfld ?_ | refine W.lenN ?_ | refine W.len (by assumption) ?_ | refine W.len (SlV.mono (by assumption) (by assumption)) ?_ | refine W.ldL (by assumption) (by with_unfolding_all rfl) ?_ | refine W.ldp (by assumption) (by with_unfolding_all rfl) ?_ | refine W.ldGL (by assumption) (Nat.le_of_ble_eq_true (by with_unfolding_all rfl)) ?_ | refine W.fldld (by assumption) (by with_unfolding_all rfl) ?_ | refine W.ld0 (by assumption) (by with_unfolding_all rfl) ?_ | refine W.ldGG (by assumption) (by with_unfolding_all rfl) ?_ | refine W.ixIc (by assumption) (by assumption) ?_ | refine W.ixIc (SlV.mono (by assumption) (by assumption)) (by assumption) ?_ | refine W.ixBc (by assumption) (by assumption) ?_ | refine W.nnil ?_ | refine W.inil ?_ | refine W.scalS (by assumption) ?_ | refine W.scalS (SlV.mono (by assumption) (by assumption)) ?_ | refine W.nck ?_ | refine W.scI ?_ | refine W.scB ?_ | refine W.scP ?_ | refine W.scM ?_ | refine W.scN ?_ | refine W.scNp ?_ | refine W.scNi ?_ | refine W.scIf ?_ | refine W.scSl ?_ | refine W.putC (by with_unfolding_all rfl) ?_)) | (with_reducible refine W.condT ?_ ?_; focus (first | (simp only [q1, q2, q3, q4, q5, q6, q7, q8, q9, q10, q11, q12, q13, q14, q15, q16, q17, q18, q19, q20, q21, q22, q23, q24, q25, q26, q27, q28, q29, q30]; done) | (simp only [q1, q2, q3, q4, q5, q6, q7, q8, q9, q10, q11, q12, q13, q14, q15, q16, q17, q18, q19, q20, q21, q22, q23, q24, q25, q26, q27, q28, q29, q30]; omega) | assumption)) | (with_reducible refine W.condF ?_ ?_; focus (first | (simp only [q1, q2, q3, q4, q5, q6, q7, q8, q9, q10, q11, q12, q13, q14, q15, q16, q17, q18, q19, q20, q21, q22, q23, q24, q25, q26, q27, q28, q29, q30]; done) | (simp only [q1, q2, q3, q4, q5, q6, q7, q8, q9, q10, q11, q12, q13, q14, q15, q16, q17, q18, q19, q20, q21, q22, q23, q24, q25, q26, q27, q28, q29, q30]; omega) | assumption)) | (with_reducible refine W.cnd (fun hc => ?_) (fun hc => ?_) <;> (try simp only [q1, q2, q3, q4, q5, q6, q7, q8, q9, q10, q11, q12, q13, q14, q15, q16, q17, q18, q19, q20, q21, q22, q23, q24, q25, q26, q27, q28, q29, q30] at hc) <;> (try (exfalso; omega))))
  all_goals (refine ⟨?_, L.mono L2⟩; simp [*])
  rfl
theorem fcells_inj {f g : Flt} (h : fcells f = fcells g) : f = g := by
  have key : ∀ e e' : Er, e.code = e'.code → e = e' := by intro e e'; cases e <;> cases e' <;> first | (intro _; rfl) | (intro h; exact absurd h (by decide))
  match f, g, h with
  | none, none, _ => rfl
  | none, some (e, none), h => exact absurd h (by cases e <;> simp [fcells, Er.code])
  | none, some (e, some p), h => exact absurd h (by cases e <;> simp [fcells, Er.code])
  | some (e, none), none, h => exact absurd h (by cases e <;> simp [fcells, Er.code])
  | some (e, some p), none, h => exact absurd h (by cases e <;> simp [fcells, Er.code])
  | some (e, none), some (e', none), h => simp [fcells] at h; rw [key e e' h]
  | some (e, none), some (e', some p), h => simp [fcells] at h
  | some (e, some p), some (e', none), h => simp [fcells] at h
  | some (e, some p), some (e', some q), h => simp [fcells] at h; rw [key e e' h.1, h.2]
theorem fcells_eq (f : Flt) : ∃ a p x, fcells f = [.int .i64 a, .bool p, .int .i64 x] := by
  match f with
  | none => exact ⟨_, _, _, rfl⟩
  | some (e, none) => exact ⟨_, _, _, rfl⟩
  | some (e, some p) => exact ⟨_, _, _, rfl⟩
theorem see_w {σ : Heap} {v : AVal} {f g : Flt} (hg : GlAll σ) (h : IsF σ v f) : W (S.skolemsee_Same v (.agg (fcells g)) σ) fun r => r.1 = decide (f = g) ∧ Hle σ r.2 := by
  unfold S.skolemsee_Same
  obtain ⟨b, q, y, eg⟩ := fcells_eq g
  rw [eg]
  repeat' (with_reducible (first | refine W.next ?_ | refine W.stop ?_ | refine W.nextP ?_ | refine W.stopP ?_ | refine W.ret ?_ | refine W.bind ?_ | refine W.asI ?_ | refine W.asB ?_ | refine W.asV ?_ | refine W.asS ?_ | refine W.chk rfl ?_ | refine W.aggK (by with_unfolding_all rfl) ?_ | refine W.fldp ?_ | refine W.fldfld ?_ | refine W.lenN ?_ | refine W.len (by assumption) ?_ | refine W.len (SlV.mono (by assumption) (by assumption)) ?_ | refine W.ldL (by assumption) (by with_unfolding_all rfl) ?_ | refine W.ldp (by assumption) (by with_unfolding_all rfl) ?_ | refine W.ldGL (by assumption) (Nat.le_of_ble_eq_true (by with_unfolding_all rfl)) ?_ | refine W.fldld (by assumption) (by with_unfolding_all rfl) ?_ | refine W.ld0 (by assumption) (by with_unfolding_all rfl) ?_ | refine W.ldGG (by assumption) (by with_unfolding_all rfl) ?_ | refine W.ixIc (by assumption) (by assumption) ?_ | refine W.ixIc (SlV.mono (by assumption) (by assumption)) (by assumption) ?_ | refine W.ixBc (by assumption) (by assumption) ?_ | refine W.nnil ?_ | refine W.inil ?_ | refine W.scalS (by assumption) ?_ | refine W.scalS (SlV.mono (by assumption) (by assumption)) ?_ | refine W.nck ?_ | refine W.scI ?_ | refine W.scB ?_ | refine W.scP ?_ | refine W.scM ?_ | refine W.scN ?_ | refine W.scNp ?_ | refine W.scNi ?_ | refine W.scIf ?_ | refine W.scSl ?_ | refine W.putC (by with_unfolding_all rfl) ?_))
  refine W.new fun l τ hl L hl hnτ => ?_
  replace h := h.mono L
  replace hg := hg.mono L
  have hnx := L.next
  refine W.call (fault_w hg h) fun r ⟨hr, L2⟩ => ?_
  obtain ⟨r, τ2⟩ := r
  simp only at hr L2; subst hr
  have hl2 := hl.mono L2
  repeat' (with_reducible (first | refine W.next ?_ | refine W.stop ?_ | refine W.nextP ?_ | refine W.stopP ?_ | refine W.ret ?_ | refine W.bind ?_ | refine W.asI ?_ | refine W.asB ?_ | refine W.asV ?_ | refine W.asS ?_ | refine W.chk rfl ?_ | refine W.aggK (by with_unfolding_all rfl) ?_ | refine W.fldp ?_ | refine W.fldfld ?_ | refine W.lenN ?_ | refine W.len (by assumption) ?_ | refine W.len (SlV.mono (by assumption) (by assumption)) ?_ | refine W.ldL (by assumption) (by with_unfolding_all rfl) ?_ | refine W.ldp (by assumption) (by with_unfolding_all rfl) ?_ | refine W.ldGL (by assumption) (Nat.le_of_ble_eq_true (by with_unfolding_all rfl)) ?_ | refine W.fldld (by assumption) (by with_unfolding_all rfl) ?_ | refine W.ld0 (by assumption) (by with_unfolding_all rfl) ?_ | refine W.ldGG (by assumption) (by with_unfolding_all rfl) ?_ | refine W.ixIc (by assumption) (by assumption) ?_ | refine W.ixIc (SlV.mono (by assumption) (by assumption)) (by assumption) ?_ | refine W.ixBc (by assumption) (by assumption) ?_ | refine W.nnil ?_ | refine W.inil ?_ | refine W.scalS (by assumption) ?_ | refine W.scalS (SlV.mono (by assumption) (by assumption)) ?_ | refine W.nck ?_ | refine W.scI ?_ | refine W.scB ?_ | refine W.scP ?_ | refine W.scM ?_ | refine W.scN ?_ | refine W.scNp ?_ | refine W.scNi ?_ | refine W.scIf ?_ | refine W.scSl ?_ | refine W.putC (by with_unfolding_all rfl) ?_))
  obtain ⟨a, p, x, ef⟩ := fcells_eq f
  simp only [ef]
  refine W.mono sameFault_w fun r ⟨hr, L3⟩ => ?_
  repeat' (with_reducible (first | refine W.next ?_ | refine W.stop ?_ | refine W.nextP ?_ | refine W.stopP ?_ | refine W.ret ?_ | refine W.bind ?_ | refine W.asI ?_ | refine W.asB ?_ | refine W.asV ?_ | refine W.asS ?_ | refine W.chk rfl ?_ | refine W.aggK (by with_unfolding_all rfl) ?_ | refine W.fldp ?_ | refine W.fldfld ?_ | refine W.lenN ?_ | refine W.len (by assumption) ?_ | refine W.len (SlV.mono (by assumption) (by assumption)) ?_ | refine W.ldL (by assumption) (by with_unfolding_all rfl) ?_ | refine W.ldp (by assumption) (by with_unfolding_all rfl) ?_ | refine W.ldGL (by assumption) (Nat.le_of_ble_eq_true (by with_unfolding_all rfl)) ?_ | refine W.fldld (by assumption) (by with_unfolding_all rfl) ?_ | refine W.ld0 (by assumption) (by with_unfolding_all rfl) ?_ | refine W.ldGG (by assumption) (by with_unfolding_all rfl) ?_ | refine W.ixIc (by assumption) (by assumption) ?_ | refine W.ixIc (SlV.mono (by assumption) (by assumption)) (by assumption) ?_ | refine W.ixBc (by assumption) (by assumption) ?_ | refine W.nnil ?_ | refine W.inil ?_ | refine W.scalS (by assumption) ?_ | refine W.scalS (SlV.mono (by assumption) (by assumption)) ?_ | refine W.nck ?_ | refine W.scI ?_ | refine W.scB ?_ | refine W.scP ?_ | refine W.scM ?_ | refine W.scN ?_ | refine W.scNp ?_ | refine W.scNi ?_ | refine W.scIf ?_ | refine W.scSl ?_ | refine W.putC (by with_unfolding_all rfl) ?_))
  refine ⟨?_, (L.mono L2).mono L3⟩
  rw [hr]
  by_cases hfg : f = g
  · subst hfg; rw [ef] at eg; simp at eg; simp [eg]
  · have : ¬ (a = b ∧ p = q ∧ x = y) := fun ⟨h1, h2, h3⟩ => hfg (fcells_inj (by rw [ef, eg, h1, h2, h3]))
    rw [decide_eq_false hfg]
    simp only [Bool.and_eq_false_iff, decide_eq_false_iff_not]
    by_cases h1 : a = b
    · by_cases h2 : p = q
      · exact .inr fun h3 => this ⟨h1, h2, h3⟩
      · exact .inl (.inr h2)
    · exact .inl (.inl h1)
end Go.Proofs.YtgneblbblihaoaaGreatDoor.A

/- Literals in order, each once: plain lists. -/
namespace Go.Proofs.YtgneblbblihaoaaGreatDoor.A
open Go
theorem ordL_iff {a b : Int} : ordL a b = true ↔ a.natAbs < b.natAbs ∨ (a.natAbs = b.natAbs ∧ a ≤ b) := by simp [ordL]
theorem ordL_total (a b : Int) : (ordL a b || ordL b a) = true := by
  rw [Bool.or_eq_true, ordL_iff, ordL_iff]; omega
theorem ordL_trans (a b c : Int) (h : ordL a b = true) (k : ordL b c = true) : ordL a c = true := by
  rw [ordL_iff] at *; omega
/-- Without neighbours that are equal. -/
def compactL : List Int → List Int
  | [] => []
  | [x] => [x]
  | x :: y :: t => if x = y then compactL (y :: t) else x :: compactL (y :: t)
theorem compactL_mem {v : Int} : ∀ {xs : List Int}, v ∈ compactL xs ↔ v ∈ xs
  | [] => Iff.rfl
  | [x] => Iff.rfl
  | x :: y :: t => by
    rw [compactL]
    split
    · rename_i h; subst h
      rw [compactL_mem]; simp
    · rw [List.mem_cons, compactL_mem, List.mem_cons (a := v) (b := x)]
theorem compactL_cc (x y : Int) (t : List Int) : compactL (x :: y :: t) = if x = y then compactL (y :: t) else x :: compactL (y :: t) := by rw [compactL]
theorem compactL_push (a : Int) : ∀ xs : List Int, compactL (xs ++ [a]) = if xs.getLast? = some a then compactL xs else compactL xs ++ [a]
  | [] => rfl
  | [x] => by
    show compactL [x, a] = _
    rw [compactL_cc]
    by_cases h : x = a
    · subst h; rw [if_pos rfl]; rw [if_pos (by rfl)]
    · rw [if_neg h, if_neg (by simpa using h)]; rfl
  | x :: y :: t => by
    have ih := compactL_push a (y :: t)
    show compactL (x :: y :: (t ++ [a])) = _
    have e : (x :: y :: t).getLast? = (y :: t).getLast? := by simp [List.getLast?_cons_cons]
    rw [e, compactL_cc, compactL_cc]
    have ih : compactL (y :: (t ++ [a])) = _ := ih
    rw [ih]
    split <;> split <;> simp
theorem compactL_len : ∀ xs : List Int, (compactL xs).length ≤ xs.length
  | [] => Nat.le_refl _
  | [x] => Nat.le_refl _
  | x :: y :: t => by
    have ih := compactL_len (y :: t)
    rw [compactL_cc]
    split
    · simp at ih ⊢; omega
    · simp at ih ⊢; omega

/-- Before, in the order. -/
def ltL (a b : Int) : Prop := a.natAbs < b.natAbs ∨ (a.natAbs = b.natAbs ∧ a < b)
def normL (c : List Int) : List Int := compactL (sortedO c)
theorem sortedO_mem {c : List Int} {v : Int} : v ∈ sortedO c ↔ v ∈ c := List.mem_mergeSort
theorem normL_mem {c : List Int} {v : Int} : v ∈ normL c ↔ v ∈ c := by rw [normL, compactL_mem, sortedO_mem]
theorem compactL_strict : ∀ {xs : List Int}, xs.Pairwise (fun a b => ordL a b = true) → (compactL xs).Pairwise ltL
  | [], _ => List.Pairwise.nil
  | [x], _ => by simp [compactL]
  | x :: y :: t, h => by
    have h' := List.pairwise_cons.1 h
    rw [compactL]
    split
    · exact compactL_strict h'.2
    · rename_i hne
      refine List.pairwise_cons.2 ⟨fun v hv => ?_, compactL_strict h'.2⟩
      rw [compactL_mem] at hv
      have hxv := h'.1 v hv
      have hxy := h'.1 y (by simp)
      have hv2 : v = y ∨ ordL y v = true := by
        rcases List.mem_cons.1 hv with rfl | hv
        · exact .inl rfl
        · exact .inr ((List.pairwise_cons.1 h'.2).1 v hv)
      rw [ordL_iff] at hxv hxy
      unfold ltL
      rcases hv2 with rfl | h2
      · omega
      · rw [ordL_iff] at h2; omega
theorem normL_strict (c : List Int) : (normL c).Pairwise ltL :=
  compactL_strict (List.pairwise_mergeSort ordL_trans ordL_total c)
theorem strict_ext : ∀ {xs ys : List Int}, xs.Pairwise ltL → ys.Pairwise ltL → (∀ v, v ∈ xs ↔ v ∈ ys) → xs = ys
  | [], [], _, _, _ => rfl
  | [], y :: ys, _, _, h => by have := (h y).2 (by simp); cases this
  | x :: xs, [], _, _, h => by have := (h x).1 (by simp); cases this
  | x :: xs, y :: ys, hx, hy, h => by
    have hx' := List.pairwise_cons.1 hx
    have hy' := List.pairwise_cons.1 hy
    have exy : x = y := by
      have h1 := (h x).1 (by simp)
      have h2 := (h y).2 (by simp)
      rcases List.mem_cons.1 h1 with h1 | h1
      · exact h1
      · rcases List.mem_cons.1 h2 with h2 | h2
        · exact h2.symm
        · have a := hx'.1 y h2; have b := hy'.1 x h1; unfold ltL at a b; omega
    subst exy
    rw [strict_ext hx'.2 hy'.2 fun v => ?_]
    constructor
    · intro hv
      rcases List.mem_cons.1 ((h v).1 (List.mem_cons_of_mem _ hv)) with e | h2
      · subst e; have a := hx'.1 v hv; unfold ltL at a; omega
      · exact h2
    · intro hv
      rcases List.mem_cons.1 ((h v).2 (List.mem_cons_of_mem _ hv)) with e | h2
      · subst e; have a := hy'.1 v hv; unfold ltL at a; omega
      · exact h2
/-- Two clauses have one normal form just where they have the same literals. -/
theorem normL_eq_iff {c d : List Int} : normL c = normL d ↔ ∀ v, v ∈ c ↔ v ∈ d :=
  ⟨fun h v => by rw [← normL_mem, h, normL_mem], fun h => strict_ext (normL_strict c) (normL_strict d) fun v => by rw [normL_mem, normL_mem, h]⟩
theorem normL_len (c : List Int) : (normL c).length ≤ c.length := Nat.le_trans (compactL_len _) (by rw [sortedO_len]; exact Nat.le_refl _)
theorem normL_idem (c : List Int) : normL (normL c) = normL c := normL_eq_iff.2 fun v => normL_mem
end Go.Proofs.YtgneblbblihaoaaGreatDoor.A

/- Copies, joins, merged blocks; equal lists. -/
namespace Go.Proofs.YtgneblbblihaoaaGreatDoor.A
open Go
theorem eqS_nil {x : AVal} {α : Type} {v : Vw α} {σ : Heap} {xs : List α} (h : SlV v σ xs x) : (x = .nils ∧ xs = []) ∨ ∀ {Rt : Type} (K : Bool → Option Rt), eqS x .nils K = K false := by
  rcases h with h | ⟨l, off, c, md, cs, rfl, _⟩
  · exact .inl h
  · exact .inr fun K => rfl

theorem clone_eq {σ : Heap} {xs : List Int} {x : AVal} (h : SlV .int σ xs x) (hb : xs.length ≤ 1000000) :
    ∃ y τ, S.slices_Clone_int_int x σ = some (y, τ) ∧ Hle σ τ ∧ Acc .int σ.next τ xs y := by
  unfold S.slices_Clone_int_int
  rcases eqS_nil h with ⟨rfl, rfl⟩ | h1
  · exact ⟨.nils, σ, rfl, Hle.refl _, Acc.nil _ _ _⟩
  · rw [h1]
    simp only [cond_false, newK]
    have ha : Acc Vw.int σ.next (σ.new (.cells .rw 1 [])) [] (.sl σ.next 0 0 none) := .inr ⟨σ.next, [], rfl, Nat.le_refl _, Nat.lt_succ_self _, by simp [Heap.new, Vw.int], by simp, fun i a hi => by simp at hi⟩
    have L := (Hle.refl σ).new (.cells .rw 1 [])
    obtain ⟨y, τ, e1, e2, e3, _⟩ := ha.app (bytes := 8) (w := x) (ys := xs) L (h.mono (ha.out_le L)) (by simp; omega) (by simp; omega)
    have e1 : ∀ {Rt : Type} (K : AVal → Heap → Option Rt), appS (σ.new (.cells .rw 1 [])) 1 8 (.sl σ.next 0 0 none) x K = K y τ := e1
    exact ⟨y, τ, by rw [e1], e2, by simpa using e3⟩

theorem grow_nil {σ : Heap} {n : Nat} (hb : n ≤ 1000000) : ∃ y τ, S.slices_Grow_int_int .nils (n : Int) σ = some (y, τ) ∧ Hle σ τ ∧ Acc .int σ.next τ [] y := by
  unfold S.slices_Grow_int_int
  have h1 : decide ((n : Int) < 0) = false := by simp
  have w0 : IntKind.i64.wrap (0 - 0) = 0 := by decide
  have w1 : IntKind.i64.wrap ((n : Int) - 0) = n := by rw [wrapS] <;> omega
  simp only [h1, cond_false, Option.bind_some, capV, lenV, w0, w1]
  by_cases hn : n = 0
  · subst hn
    exact ⟨.nils, σ, rfl, Hle.refl _, Acc.nil _ _ _⟩
  · have h2 : decide ((n : Int) > 0) = true := by simp; omega
    simp only [h2, cond_true]
    have e1 : ∀ {Rt : Type} (K : AVal → Option Rt), slS σ 1 .nils 0 (some 0) none K = K .nils := fun K => by simp [slS]
    have e2 : ∀ {Rt : Type} (K : AVal → Heap → Option Rt), appZ σ 1 8 [.int .i64 0] .nils (n : Int) K = K (.sl σ.next 0 n none) (σ.new (.cells .rw 1 (rep n [.int .i64 0]))) := fun K => by
      simp only [appZ, newK]; rw [if_neg (by omega), if_pos ⟨by omega, by omega, by omega⟩]; simp
    have e3 : ∀ {Rt : Type} (K : AVal → Option Rt), slS (σ.new (.cells .rw 1 (rep n [.int .i64 0]))) 1 (.sl σ.next 0 n none) 0 (some 0) none K = K (.sl σ.next 0 0 none) := fun K => by
      simp only [slS, hnew_get, if_true]
      rw [if_pos ⟨trivial, by omega, by simp, by simp, by simp, by simp⟩]; rfl
    rw [e1, e2, e3]
    exact ⟨_, _, rfl, (Hle.refl σ).new _, .inr ⟨σ.next, _, rfl, Nat.le_refl _, Nat.lt_succ_self _, by simp only [hnew_get, if_true]; rfl, by simp, fun i a hi => by simp at hi⟩⟩

theorem take_flat_le (zs : List (List Int)) (i : Nat) : (zs.take i).flatten.length ≤ zs.flatten.length := by
  conv => rhs; rw [← List.take_append_drop i zs]
  rw [List.flatten_append, List.length_append]; omega
theorem take_succ_flat {zs : List (List Int)} {i : Nat} {z : List Int} (h : zs[i]? = some z) : (zs.take (i + 1)).flatten = (zs.take i).flatten ++ z := by
  rw [List.take_add_one, h, List.flatten_append]; simp

theorem ld_sl {σ : Heap} {α : Type} {v : Vw α} {p : AVal} {xs : List α} {us : List AVal} (h : At σ p us) (hr : v.sl.rel σ xs us) : ∃ x, (∀ {Rt : Type} (K : AVal → Option Rt), ld σ p .V K = K x) ∧ SlV v σ xs x ∧ us = [x] := by
  obtain ⟨x, rfl, hx⟩ := hr
  exact ⟨x, fun K => by rw [h.ld]; rfl, hx, rfl⟩
theorem ld_i {σ : Heap} {p : AVal} {a : Int} {us : List AVal} (h : At σ p us) (hr : Vw.int.rel σ a us) {Rt : Type} (K : Int → Option Rt) : ld σ p (.I .i64) K = K a := by
  have hr : us = [.int .i64 a] := hr
  subst hr; rw [h.ld]; simp [asK]

theorem concat_eq {σ : Heap} {zs : List (List Int)} {x : AVal} (h : SlV (Vw.sl .int) σ zs x) (hb : zs.flatten.length ≤ 1000000) (hb2 : zs.length ≤ 1000000) :
    ∃ y τ, S.slices_Concat_int_int x σ = some (y, τ) ∧ Hle σ τ ∧ Acc .int σ.next τ zs.flatten y := by
  unfold S.slices_Concat_int_int
  rw [h.len]
  obtain ⟨s, τ1, e1, rfl, rfl⟩ := loopW_inv (f := S.slices_Concat_int_int.b0 x zs.length) (x := (0, 0)) (σ := σ) zs.length (fun i y τ => y = (((zs.take i).flatten.length : Int), (i : Int)) ∧ τ = σ) (fun y τ => y = (zs.flatten.length : Int) ∧ τ = σ)
    (fun i y τ hi hI => by
      obtain ⟨rfl, rfl⟩ := hI
      obtain ⟨z, hz⟩ : ∃ z, zs[i]? = some z := ⟨_, List.getElem?_eq_getElem hi⟩
      obtain ⟨p, us, hA, hr, e1⟩ := h.ix hz
      obtain ⟨w, e2, hw, _⟩ := ld_sl hA hr
      refine .inl ⟨_, τ, ?_, rfl, rfl⟩
      unfold S.slices_Concat_int_int.b0
      have hd : decide ((i : Int) < (zs.length : Int)) = true := by simp; omega
      have hle := take_flat_le zs (i + 1)
      rw [take_succ_flat hz, List.length_append] at hle
      have w1 : IntKind.i64.wrap ((((zs.take i).flatten.length : Nat) : Int) + (z.length : Int)) = (((zs.take (i + 1)).flatten.length : Nat) : Int) := by
        rw [take_succ_flat hz, List.length_append, wrapS] <;> omega
      have w2 : IntKind.i64.wrap ((i : Int) + 1) = ((i + 1 : Nat) : Int) := by rw [wrapS] <;> omega
      have hn : decide ((((zs.take (i + 1)).flatten.length : Nat) : Int) < 0) = false := decide_eq_false (by omega)
      simp only [hd, cond_true]
      rw [show ixA τ x 1 = ixA τ x (Vw.sl Vw.int).sz from rfl, e1 (Hle.refl _), e2, hw.len, w1]
      simp only [hn, cond_false, Option.bind_some, w2])
    (fun y τ hI => by
      obtain ⟨rfl, rfl⟩ := hI
      rw [List.take_length]
      refine ⟨_, τ, ?_, rfl, rfl⟩
      unfold S.slices_Concat_int_int.b0
      have hd : decide ((zs.length : Int) < (zs.length : Int)) = false := by simp
      simp only [hd, cond_false]) ⟨by simp, rfl⟩
  rw [e1]
  simp only [Option.bind_some]
  obtain ⟨y0, τ0, g1, g2, g3⟩ := grow_nil (σ := τ1) hb
  rw [g1]
  simp only [Option.bind_some]
  rw [h.len]
  obtain ⟨y, τ, e2, L, hA⟩ := loopW_inv (f := S.slices_Concat_int_int.b1 x zs.length) (x := (y0, 0)) (σ := τ0) zs.length (fun i y τ => y.2 = (i : Int) ∧ Hle τ1 τ ∧ Acc .int τ1.next τ (zs.take i).flatten y.1) (fun y τ => Hle τ1 τ ∧ Acc .int τ1.next τ zs.flatten y)
    (fun i y τ hi hI => by
      obtain ⟨h1, L, hA⟩ := hI
      obtain ⟨y, j⟩ := y
      simp only at h1; subst h1
      obtain ⟨z, hz⟩ : ∃ z, zs[i]? = some z := ⟨_, List.getElem?_eq_getElem hi⟩
      obtain ⟨p, us, hp, hr, e1⟩ := h.ix hz
      obtain ⟨w, e2, hs, rfl⟩ := ld_sl hp hr
      have e2 : ∀ {Rt : Type} (K : AVal → Option Rt), ld τ p .V K = K w := fun K => by rw [(hp.mono L).ld]; rfl
      have hs := hs.mono (hA.out_le L)
      have hle := take_flat_le zs (i + 1)
      rw [take_succ_flat hz, List.length_append] at hle
      obtain ⟨y', τ', a1, a2, a3, _⟩ := hA.app (bytes := 8) L hs (by omega) (by omega)
      have a1 : ∀ {Rt : Type} (K : AVal → Heap → Option Rt), appS τ 1 8 y w K = K y' τ' := a1
      refine .inl ⟨(y', ((i + 1 : Nat) : Int)), τ', ?_, rfl, a2, by rw [take_succ_flat hz]; exact a3⟩
      unfold S.slices_Concat_int_int.b1
      have hd : decide ((i : Int) < (zs.length : Int)) = true := by simp; omega
      have w2 : IntKind.i64.wrap ((i : Int) + 1) = ((i + 1 : Nat) : Int) := by rw [wrapS] <;> omega
      simp only [hd, cond_true]
      rw [show ixA τ x 1 = ixA τ x (Vw.sl Vw.int).sz from rfl, e1 L, e2, a1]
      simp only [w2])
    (fun y τ hI => by
      obtain ⟨h1, L, hA⟩ := hI
      obtain ⟨y, j⟩ := y
      simp only at h1; subst h1
      refine ⟨_, τ, ?_, L, by rw [List.take_length] at hA; exact hA⟩
      unfold S.slices_Concat_int_int.b1
      have hd : decide ((zs.length : Int) < (zs.length : Int)) = false := by simp
      simp only [hd, cond_false]) ⟨rfl, g2, by simpa using g3⟩
  rw [e2]
  exact ⟨y, τ, rfl, L, hA⟩

theorem sameInts_eq {σ : Heap} {xs ys : List Int} {x y : AVal} (hx : SlV .int σ xs x) (hy : SlV .int σ ys y) (hb : xs.length ≤ 1000000) : S.skolemref_SameInts x y σ = some (decide (xs = ys)) := by
  unfold S.skolemref_SameInts
  rw [hx.len, hy.len]
  by_cases hl : xs.length = ys.length
  · have hc : ((xs.length : Int) != (ys.length : Int)) = false := by simp [hl]
    rw [hc]
    simp only [cond_false]
    obtain ⟨r, e1, e2⟩ := loopP_inv (f := S.skolemref_SameInts.b0 x y σ) (x := (0 : Int)) xs.length (fun i z => z = (i : Int) ∧ ∀ j, j < i → xs[j]? = ys[j]?) (fun r => (r = .inl () ∧ xs = ys) ∨ (r = .inr false ∧ xs ≠ ys))
      (fun i z hi hI => by
        obtain ⟨rfl, hI⟩ := hI
        obtain ⟨a, ha⟩ : ∃ a, xs[i]? = some a := ⟨_, List.getElem?_eq_getElem hi⟩
        obtain ⟨b, hb⟩ : ∃ b, ys[i]? = some b := ⟨_, List.getElem?_eq_getElem (by omega)⟩
        obtain ⟨p, us, c2, c3, c1⟩ := hx.ix ha
        obtain ⟨q, bs, d2, d3, d1⟩ := hy.ix hb
        have hd : decide ((i : Int) < (xs.length : Int)) = true := by simp; omega
        have w2 : IntKind.i64.wrap ((i : Int) + 1) = ((i + 1 : Nat) : Int) := by rw [wrapS] <;> omega
        have key : S.skolemref_SameInts.b0 x y σ (i : Int) = cond (!(a == b)) (some (.inr (.inr false))) (some (.inl ((i + 1 : Nat) : Int))) := by
          unfold S.skolemref_SameInts.b0
          rw [hx.len, hd]
          simp only [cond_true]
          rw [show ixA σ x 1 = ixA σ x Vw.int.sz from rfl, show ixA σ y 1 = ixA σ y Vw.int.sz from rfl, c1 (Hle.refl _), ld_i c2 c3, d1 (Hle.refl _), ld_i d2 d3, w2]
        rw [key]
        by_cases hab : a = b
        · subst hab
          refine .inl ⟨_, by simp only [beq_self_eq_true, Bool.not_true, cond_false], rfl, fun j hj => ?_⟩
          rcases Nat.lt_succ_iff_lt_or_eq.1 hj with hj | rfl
          · exact hI j hj
          · rw [ha, hb]
        · refine .inr ⟨.inr false, by rw [show (a == b) = false by simpa using hab]; rfl, .inr ⟨rfl, fun e => ?_⟩⟩
          subst e; rw [ha] at hb; cases hb; exact hab rfl)
      (fun z hI => by
        obtain ⟨rfl, hI⟩ := hI
        refine ⟨.inl (), ?_, .inl ⟨rfl, ?_⟩⟩
        · unfold S.skolemref_SameInts.b0
          have hd : decide ((xs.length : Int) < (xs.length : Int)) = false := by simp
          rw [hx.len, hd]; rfl
        · apply List.ext_getElem? fun j => ?_
          by_cases hj : j < xs.length
          · exact hI j hj
          · rw [List.getElem?_eq_none (by omega), List.getElem?_eq_none (by omega)]) ⟨rfl, fun j hj => by omega⟩
    rw [e1]
    simp only [Option.bind_some]
    rcases e2 with ⟨rfl, e⟩ | ⟨rfl, e⟩
    · simp [e]
    · simp [e]
  · have hc : ((xs.length : Int) != (ys.length : Int)) = true := by simp; omega
    rw [hc]
    have : xs ≠ ys := fun e => hl (by rw [e])
    simp [this]
end Go.Proofs.YtgneblbblihaoaaGreatDoor.A

/- Merged blocks. -/
namespace Go.Proofs.YtgneblbblihaoaaGreatDoor.A
open Go
abbrev vB : Vw (Bool × List Int) := Vw.pair .bool (Vw.sl .int)
theorem vB_rel {σ : Heap} {b : Bool × List Int} {us : List AVal} (h : vB.rel σ b us) : ∃ x, us = [.bool b.1, x] ∧ SlV .int σ b.2 x := by
  obtain ⟨u1, u2, rfl, h1, x, rfl, h2⟩ := h
  have h1 : u1 = [.bool b.1] := h1
  subst h1
  exact ⟨x, rfl, h2⟩
end Go.Proofs.YtgneblbblihaoaaGreatDoor.A

/- Maps by numbers, as0 lists of pairs. -/
namespace Go.Proofs.YtgneblbblihaoaaGreatDoor.A
open Go
def ents (ps : List (Int × AVal)) : List (AVal × AVal) := ps.map fun p => (.int .i64 p.1, p.2)
def look : List (Int × AVal) → Int → Option AVal
  | [], _ => none
  | p :: ps, n => if n = p.1 then some p.2 else look ps n
def keysOf (ps : List (Int × AVal)) : List Int := ps.map (·.1)
/-- A map. -/
structure MapV (σ : Heap) (l : Nat) (ps : List (Int × AVal)) : Prop where
  lt : l < σ.next
  get : σ.get l = some (.map (ents ps))
  nodup : (keysOf ps).Nodup

theorem MapV.mono {σ τ : Heap} {l : Nat} {ps : List (Int × AVal)} (h : MapV σ l ps) (L : Hle σ τ) : MapV τ l ps := ⟨Nat.lt_of_lt_of_le h.lt L.next, L.get _ _ h.lt h.get, h.nodup⟩
theorem MapV.new (σ : Heap) : MapV (σ.new (.map [])) σ.next [] := ⟨Nat.lt_succ_self _, by rw [hnew_get, if_pos rfl]; rfl, by simp [keysOf]⟩

theorem look_none {ps : List (Int × AVal)} {n : Int} : look ps n = none ↔ n ∉ keysOf ps := by
  induction ps with
  | nil => simp [look, keysOf]
  | cons p ps ih =>
    simp only [look, keysOf, List.map_cons, List.mem_cons]
    by_cases h : n = p.1
    · simp [h]
    · simp only [h, if_false, false_or]; exact ih
theorem mfind_ents (n : Int) : ∀ (ps : List (Int × AVal)) (i : Nat), (look ps n = none ∧ mfind .i64 n (ents ps) i = some none) ∨ ∃ j x, look ps n = some x ∧ mfind .i64 n (ents ps) i = some (some (i + j)) ∧ ps[j]? = some (n, x)
  | [], i => .inl ⟨rfl, rfl⟩
  | p :: ps, i => by
    by_cases h : n = p.1
    · exact .inr ⟨0, p.2, by simp [look, h], by simp [ents, mfind, h], by rw [h]; rfl⟩
    · rcases mfind_ents n ps (i + 1) with ⟨h1, h2⟩ | ⟨j, x, h1, h2, h3⟩
      · exact .inl ⟨by simp [look, h, h1], by simp only [ents, List.map_cons, mfind, if_true, if_neg h]; exact h2⟩
      · exact .inr ⟨j + 1, x, by simp [look, h, h1], by simp only [ents, List.map_cons, mfind, if_true, if_neg h]; rw [show i + (j + 1) = i + 1 + j by omega]; exact h2, by simpa using h3⟩

section
variable {σ : Heap} {l : Nat} {ps : List (Int × AVal)} {n : Int} {x : AVal}
theorem MapV.mget (h : MapV σ l ps) {Rt : Type} (K : Option AVal → Option Rt) : mgetK σ (.map l) .i64 n K = K (look ps n) := by
  simp only [mgetK, h.get]
  rcases mfind_ents n ps 0 with ⟨h1, h2⟩ | ⟨j, x, h1, h2, h3⟩
  · rw [h2, h1]
  · rw [h2, h1]
    have : (ents ps)[0 + j]? = some (.int .i64 n, x) := by rw [Nat.zero_add]; simp [ents, h3]
    simp only [this]
theorem MapV.mgetZ (h : MapV σ l ps) (z : AVal) {Rt : Type} (K : AVal → Bool → Option Rt) : mgetZ σ (.map l) .i64 n z K = K ((look ps n).getD z) (look ps n).isSome := by
  unfold A.mgetZ
  rw [h.mget]
  cases look ps n <;> rfl
theorem look_set : ∀ (ps : List (Int × AVal)) (j : Nat) (n : Int) (x y : AVal), ps[j]? = some (n, y) → (keysOf ps).Nodup → (keysOf (ps.set j (n, x))) = keysOf ps ∧ ∀ k, look (ps.set j (n, x)) k = if k = n then some x else look ps k
  | [], j, n, x, y, h, _ => by simp at h
  | p :: ps, 0, n, x, y, h, hnd => by
    simp at h; subst h
    refine ⟨rfl, fun k => ?_⟩
    simp only [List.set_cons_zero, look]
    split <;> rfl
  | p :: ps, j + 1, n, x, y, h, hnd => by
    simp only [keysOf, List.map_cons, List.nodup_cons] at hnd
    have h' : ps[j]? = some (n, y) := by simpa using h
    obtain ⟨h1, h2⟩ := look_set ps j n x y h' hnd.2
    refine ⟨by simp only [keysOf, List.set_cons_succ, List.map_cons] at h1 ⊢; rw [h1], fun k => ?_⟩
    simp only [List.set_cons_succ, look, h2]
    by_cases hk : k = p.1
    · have : k ≠ n := fun e => hnd.1 (by rw [← hk, e]; exact List.mem_map.2 ⟨(n, y), List.mem_of_getElem? h', rfl⟩)
      simp [hk]; rw [hk] at this; simp [this]
    · simp [hk]
theorem look_append : ∀ (ps : List (Int × AVal)) (n : Int) (x : AVal), look ps n = none → ∀ k, look (ps ++ [(n, x)]) k = if k = n then some x else look ps k
  | [], n, x, _, k => by simp [look]
  | p :: ps, n, x, h, k => by
    simp only [look] at h
    split at h
    · cases h
    · rename_i hn
      simp only [List.cons_append, look, look_append ps n x h]
      by_cases hk : k = p.1
      · have : k ≠ n := fun e => hn (by rw [← e, hk])
        simp [hk]; rw [hk] at this; simp [this]
      · simp [hk]
theorem ents_set (ps : List (Int × AVal)) (j : Nat) (n : Int) (x : AVal) : (ents ps).set j (.int .i64 n, x) = ents (ps.set j (n, x)) := by simp [ents, List.map_set]
theorem MapV.mput (h : MapV σ l ps) (n : Int) (x : AVal) : ∃ qs, (∀ {Rt : Type} (K : Heap → Option Rt), mputK σ (.map l) .i64 n x K = K (σ.set l (.map (ents qs)))) ∧ MapV (σ.set l (.map (ents qs))) l qs ∧ (∀ k, look qs k = if k = n then some x else look ps k) ∧ qs.length ≤ ps.length + 1 := by
  rcases mfind_ents n ps 0 with ⟨h1, h2⟩ | ⟨j, y, h1, h2, h3⟩
  · refine ⟨ps ++ [(n, x)], fun K => ?_, ⟨h.lt, by rw [hset_get, if_pos rfl], ?_⟩, look_append ps n x h1, by simp⟩
    · simp only [mputK, h.get, h2]; congr 3; simp [ents]
    · simp only [keysOf, List.map_append, List.map_cons, List.map_nil]
      exact List.nodup_append.2 ⟨h.nodup, by simp, fun a ha b hb e => by simp at hb; subst hb; subst e; exact look_none.1 h1 ha⟩
  · obtain ⟨g1, g2⟩ := look_set ps j n x y h3 h.nodup
    refine ⟨ps.set j (n, x), fun K => ?_, ⟨h.lt, by rw [hset_get, if_pos rfl], by rw [g1]; exact h.nodup⟩, g2, by simp⟩
    simp only [mputK, h.get, h2, Nat.zero_add, ents_set]
end
end Go.Proofs.YtgneblbblihaoaaGreatDoor.A

/- Renamed clauses: the program's way, the reference's way. -/
namespace Go.Proofs.YtgneblbblihaoaaGreatDoor.A
open Go
theorem var_eq {σ : Heap} {l : Int} (h : -1152921504606846976 ≤ l ∧ l ≤ 9223372036854775807) : S.lits_Var l σ = some (l.natAbs : Int) := by
  unfold S.lits_Var
  have w : IntKind.i64.wrap (0 - l) = -l := by rw [wrapS] <;> omega
  rw [w]
  congr 1
  split <;> omega

abbrev vIs : Vw (List Int) := Vw.sl .int
theorem vIs_one {σ : Heap} {zs : List Int} {y : AVal} (h : SlV .int σ zs y) : vIs.rel σ zs [y] := ⟨y, rfl, h⟩

end Go.Proofs.YtgneblbblihaoaaGreatDoor.A

/- PrefixMatrix, as0 plain law. -/
namespace Go.Proofs.YtgneblbblihaoaaGreatDoor.A
open Go
theorem abs_eq {σ : Heap} {l : Int} (h : -1152921504606846976 ≤ l ∧ l ≤ 9223372036854775807) : S.skolemref_Abs l σ = some (l.natAbs : Int) := by
  unfold S.skolemref_Abs
  by_cases hl : l < 0
  · rw [show decide (l < 0) = true from decide_eq_true hl]
    simp only [cond_true]; congr 1; rw [wrapS] <;> omega
  · rw [show decide (l < 0) = false from decide_eq_false hl]
    simp only [cond_false]; congr 1; omega

/-! ### guards -/
theorem near_eq {σ : Heap} {xs : List Int} {x : AVal} (hx : SlV .int σ xs x) (hb : xs.length ≤ 4611686018427387904) : ∃ b, S.skolemmake_Near x σ = some b ∧ (b = true → ∀ l ∈ xs, -1152921504606846976 ≤ l) := by
  unfold S.skolemmake_Near
  obtain ⟨r, e1, hr⟩ := loopP_inv (f := S.skolemmake_Near.b0 x σ) (x := (0 : Int)) xs.length (fun i z => z = (i : Int) ∧ ∀ j l, j < i → xs[j]? = some l → -1152921504606846976 ≤ l) (fun r => r = .inr false ∨ (r = .inl () ∧ ∀ l ∈ xs, -1152921504606846976 ≤ l))
    (fun i z hi hI => by
      obtain ⟨rfl, hI⟩ := hI
      obtain ⟨a, ha⟩ : ∃ a, xs[i]? = some a := ⟨_, List.getElem?_eq_getElem hi⟩
      obtain ⟨p, us, c2, c3, c1⟩ := hx.ix ha
      have hd : decide ((i : Int) < (xs.length : Int)) = true := decide_eq_true (by omega)
      have w2 : IntKind.i64.wrap ((i : Int) + 1) = ((i + 1 : Nat) : Int) := by rw [wrapS] <;> omega
      unfold S.skolemmake_Near.b0
      rw [hx.len]
      simp only [hd, cond_true, w2]
      rw [show ixA σ x 1 = ixA σ x Vw.int.sz from rfl, c1 (Hle.refl _), ld_i c2 c3]
      by_cases h : a < -1152921504606846976
      · rw [show decide (a < -1152921504606846976) = true from decide_eq_true h]
        exact .inr ⟨_, rfl, .inl rfl⟩
      · rw [show decide (a < -1152921504606846976) = false from decide_eq_false h]
        refine .inl ⟨_, rfl, rfl, fun j l hj hl => ?_⟩
        rcases Nat.lt_succ_iff_lt_or_eq.1 hj with hj | rfl
        · exact hI j l hj hl
        · rw [ha] at hl; cases hl; omega)
    (fun z hI => by
      obtain ⟨rfl, hI⟩ := hI
      refine ⟨.inl (), ?_, .inr ⟨rfl, fun l hl => ?_⟩⟩
      · unfold S.skolemmake_Near.b0
        have hd : decide ((xs.length : Int) < (xs.length : Int)) = false := by simp
        rw [hx.len, hd]; rfl
      · obtain ⟨j, hj, e⟩ := List.getElem_of_mem hl
        exact hI j l hj (by rw [List.getElem?_eq_getElem hj, e])) ⟨rfl, fun j l hj => by omega⟩
  rw [e1]
  rcases hr with rfl | ⟨rfl, h⟩
  · exact ⟨false, rfl, fun h => by cases h⟩
  · exact ⟨true, rfl, fun _ => h⟩
theorem nearAll_eq {σ : Heap} {xs : List (List Int)} {x : AVal} (hx : SlV vIs σ xs x) (hb : xs.length ≤ 4611686018427387904) (hs : ∀ c ∈ xs, c.length ≤ 4611686018427387904) : ∃ b, S.skolemmake_NearAll x σ = some b ∧ (b = true → ∀ c ∈ xs, ∀ l ∈ c, -1152921504606846976 ≤ l) := by
  unfold S.skolemmake_NearAll
  obtain ⟨r, e1, hr⟩ := loopP_inv (f := S.skolemmake_NearAll.b0 x σ) (x := (0 : Int)) xs.length (fun i z => z = (i : Int) ∧ ∀ j c, j < i → xs[j]? = some c → ∀ l ∈ c, -1152921504606846976 ≤ l) (fun r => r = .inr false ∨ (r = .inl () ∧ ∀ c ∈ xs, ∀ l ∈ c, -1152921504606846976 ≤ l))
    (fun i z hi hI => by
      obtain ⟨rfl, hI⟩ := hI
      obtain ⟨a, ha⟩ : ∃ a, xs[i]? = some a := ⟨_, List.getElem?_eq_getElem hi⟩
      obtain ⟨p, us, c2, ⟨u, rfl, c3⟩, c1⟩ := hx.ix ha
      have hd : decide ((i : Int) < (xs.length : Int)) = true := decide_eq_true (by omega)
      have w2 : IntKind.i64.wrap ((i : Int) + 1) = ((i + 1 : Nat) : Int) := by rw [wrapS] <;> omega
      obtain ⟨b, hb1, hb2⟩ := near_eq c3 (hs a (List.mem_of_getElem? ha))
      unfold S.skolemmake_NearAll.b0
      rw [hx.len]
      simp only [hd, cond_true, w2]
      rw [show ixA σ x 1 = ixA σ x vIs.sz from rfl, c1 (Hle.refl _), c2.ld]
      simp only [asK]
      rw [hb1]
      cases b with
      | false => exact .inr ⟨_, rfl, .inl rfl⟩
      | true =>
        refine .inl ⟨_, rfl, rfl, fun j c hj hc => ?_⟩
        rcases Nat.lt_succ_iff_lt_or_eq.1 hj with hj | rfl
        · exact hI j c hj hc
        · rw [ha] at hc; cases hc; exact hb2 rfl)
    (fun z hI => by
      obtain ⟨rfl, hI⟩ := hI
      refine ⟨.inl (), ?_, .inr ⟨rfl, fun c hc => ?_⟩⟩
      · unfold S.skolemmake_NearAll.b0
        have hd : decide ((xs.length : Int) < (xs.length : Int)) = false := by simp
        rw [hx.len, hd]; rfl
      · obtain ⟨j, hj, e⟩ := List.getElem_of_mem hc
        exact hI j c hj (by rw [List.getElem?_eq_getElem hj, e])) ⟨rfl, fun j c hj => by omega⟩
  rw [e1]
  rcases hr with rfl | ⟨rfl, h⟩
  · exact ⟨false, rfl, fun h => by cases h⟩
  · exact ⟨true, rfl, fun _ => h⟩
/-- Clauses are few: each is short enough, or the count is more than it may be. -/
theorem count_eq {σ : Heap} {xs : List (List Int)} {x : AVal} (hx : SlV vIs σ xs x) (hb : xs.length ≤ 60) (hs : ∀ c ∈ xs, c.length ≤ 4611686018427387904 / 64) : S.skolemmake_Count x σ = some ((xs.flatten.length : Nat) : Int) := by
  have hfl : ∀ (l : List (List Int)), (∀ c ∈ l, c.length ≤ 4611686018427387904 / 64) → l.flatten.length ≤ l.length * (4611686018427387904 / 64) := by
    intro l
    induction l with
    | nil => intro _; simp
    | cons c l ih => intro h; have := ih fun c hc => h c (List.mem_cons_of_mem _ hc); have := h c List.mem_cons_self; rw [List.flatten_cons, List.length_append, List.length_cons]; omega
  unfold S.skolemmake_Count
  obtain ⟨r, e1, rfl⟩ := loopP_inv (f := S.skolemmake_Count.b0 x σ) (x := ((0 : Int), (0 : Int))) xs.length (fun i z => z = ((((xs.take i).flatten.length : Nat) : Int), (i : Int))) (fun r => r = ((xs.flatten.length : Nat) : Int))
    (fun i z hi hI => by
      subst hI
      obtain ⟨a, ha⟩ : ∃ a, xs[i]? = some a := ⟨_, List.getElem?_eq_getElem hi⟩
      obtain ⟨p, us, c2, ⟨u, rfl, c3⟩, c1⟩ := hx.ix ha
      have hd : decide ((i : Int) < (xs.length : Int)) = true := decide_eq_true (by omega)
      have w2 : IntKind.i64.wrap ((i : Int) + 1) = ((i + 1 : Nat) : Int) := by rw [wrapS] <;> omega
      have h5 := hfl (xs.take (i + 1)) (fun c hc => hs c (List.mem_of_mem_take hc))
      have h6 : (xs.take (i + 1)).length ≤ 60 := Nat.le_trans (List.length_take_le' ..) hb
      have h7 : (xs.take (i + 1)).flatten.length ≤ 60 * (4611686018427387904 / 64) := Nat.le_trans h5 (Nat.mul_le_mul_right _ h6)
      have w3 : IntKind.i64.wrap ((((xs.take i).flatten.length : Nat) : Int) + (a.length : Int)) = (((xs.take (i + 1)).flatten.length : Nat) : Int) := by
        rw [take_succ_flat ha, List.length_append] at h7 ⊢
        rw [wrapS] <;> omega
      refine .inl ⟨_, ?_, rfl⟩
      unfold S.skolemmake_Count.b0
      rw [hx.len]
      simp only [hd, cond_true, w2]
      rw [show ixA σ x 1 = ixA σ x vIs.sz from rfl, c1 (Hle.refl _), c2.ld]
      simp only [asK]
      rw [c3.len, w3])
    (fun z hI => by
      subst hI
      rw [List.take_length]
      refine ⟨_, ?_, rfl⟩
      unfold S.skolemmake_Count.b0
      have hd : decide ((xs.length : Int) < (xs.length : Int)) = false := by simp
      rw [hx.len]; simp only [hd, cond_false]) (by simp)
  rw [e1]; rfl
end Go.Proofs.YtgneblbblihaoaaGreatDoor.A

/- Literals, checked; the clauses of a formula, its blocks. -/
namespace Go.Proofs.YtgneblbblihaoaaGreatDoor.A
open Go
theorem sk {n : Nat} (h : n < 9223372036854775807 := by omega) : IntKind.i64.wrap ((n : Int) + 1) = ((n + 1 : Nat) : Int) := by rw [wrapS] <;> omega

theorem upto {α : Type} {P : Nat → α → Prop} {xs : List α} {i : Nat} {z : α} (hI : ∀ j a, j < i → xs[j]? = some a → P j a) (hz : xs[i]? = some z) (hp : P i z) : ∀ j a, j < i + 1 → xs[j]? = some a → P j a := fun j a hj ha => by
  rcases Nat.lt_succ_iff_lt_or_eq.1 hj with hj | hj
  · exact hI j a hj ha
  · rw [hj] at ha ⊢; rw [hz] at ha; cases ha; exact hp
theorem upto0 {α : Type} {P : Nat → α → Prop} {xs : List α} : ∀ j a, j < 0 → xs[j]? = some a → P j a := fun j a hj => by omega

/-- Is it a literal? -/
def isL (l vars : Int) : Bool := decide (l ≠ 0) && decide (-vars ≤ l) && decide (l ≤ vars)
theorem isL_iff {l vars : Int} : isL l vars = true ↔ l ≠ 0 ∧ -vars ≤ l ∧ l ≤ vars := by simp [isL, and_assoc]
theorem litsIs_eq {σ : Heap} {l vars : Int} (h0 : -1000000000 ≤ vars) (h1 : vars ≤ 1000000000) : S.lits_Is l vars σ = some (isL l vars) := by
  unfold S.lits_Is isL
  have w : IntKind.i64.wrap (0 - vars) = -vars := by rw [wrapS] <;> omega
  rw [w]
  by_cases h : l = 0
  · subst h; rfl
  · have : (l != 0) = true := by simpa using h
    rw [this]
    by_cases h2 : -vars ≤ l
    · simp [h, h2]
    · simp [h, h2]
theorem refIs_eq {σ : Heap} {l vars : Int} (h0 : -1000000000 ≤ vars) (h1 : vars ≤ 1000000000) : S.skolemref1_Is l vars σ = some (isL l vars) := by
  unfold S.skolemref1_Is isL
  have w : IntKind.i64.wrap (0 - vars) = -vars := by rw [wrapS] <;> omega
  rw [w]
  by_cases h : l = 0
  · subst h; rfl
  · have : (l != 0) = true := by simpa using h
    rw [this]
    by_cases h2 : l ≤ vars
    · simp [h, h2]
    · simp [h, h2]

theorem indexFunc_w {σ : Heap} {xs : List Int} {x f : AVal} (p : Int → Bool) (hx : SlV .int σ xs x) (hb : xs.length ≤ 4611686018427387904)
    (hf : ∀ n ∈ xs, ∀ {Rt : Type} (K : AVal → Heap → Option Rt), callV S.slices_IndexFunc_int_int.T f [.int .i64 n] σ K = K (.bool (p n)) σ) :
    W (S.slices_IndexFunc_int_int x f σ) fun r => r.2 = σ ∧ r.1 = match xs.findIdx? p with
      | some k => (k : Int)
      | none => -1 := by
  unfold S.slices_IndexFunc_int_int
  repeat' (with_reducible (first | refine W.bind ?_ | refine W.len (by assumption) ?_))
  refine W.loop xs.length (fun i x τ => x = (i : Int) ∧ σ = τ ∧ ∀ j a, j < i → xs[j]? = some a → p a = false) ⟨rfl, rfl, fun j a hj => by omega⟩ fun i x τ hi hI => ?_
  obtain ⟨rfl, rfl, hI⟩ := hI
  unfold S.slices_IndexFunc_int_int.b0
  repeat' (first | (with_reducible (first | refine W.stop ?_ | refine W.ret ?_)) | (with_reducible refine W.cnd (fun hc => ?_) (fun hc => ?_) <;> (try simp only [q1, q2, q3, q4, q5, q6, q7, q8, q9, q10, q11, q12, q13, q14, q15, q16, q17, q18, q19, q20, q21, q22, q23, q24, q25, q26, q27, q28, q29, q30] at hc) <;> (try (exfalso; omega))))
  · refine W.ixIn hx (by omega) (by omega) fun a ha => ?_
    rw [Int.toNat_natCast] at ha
    refine W.to (hf a (List.mem_of_getElem? ha) _) ?_
    repeat' (first | (with_reducible (first | refine W.next ?_ | refine W.stop ?_ | refine W.ret ?_ | refine W.asB ?_)) | (with_reducible refine W.cnd (fun hc => ?_) (fun hc => ?_) <;> (try simp only [q1, q2, q3, q4, q5, q6, q7, q8, q9, q10, q11, q12, q13, q14, q15, q16, q17, q18, q19, q20, q21, q22, q23, q24, q25, q26, q27, q28, q29, q30] at hc) <;> (try (exfalso; omega))))
    · refine ⟨rfl, ?_⟩
      have : xs.findIdx? p = some i := by
        rw [List.findIdx?_eq_some_iff_getElem]
        obtain ⟨h1, h2⟩ := List.getElem?_eq_some_iff.1 ha
        refine ⟨h1, by rw [h2]; exact hc, fun j hj => ?_⟩
        have := hI j xs[j] hj (List.getElem?_eq_getElem _)
        simp [this]
      rw [this]
    · refine ⟨by omega, sk, rfl, upto (P := fun _ a => p a = false) hI ha hc⟩
  · refine ⟨rfl, ?_⟩
    have : xs.findIdx? p = none := by
      rw [List.findIdx?_eq_none_iff]
      intro a ha
      obtain ⟨j, hj, e⟩ := List.getElem_of_mem ha
      exact hI j a (by omega) (by rw [List.getElem?_eq_getElem hj, e])
    rw [this]
theorem containsFunc_w {σ : Heap} {xs : List Int} {x f : AVal} (p : Int → Bool) (hx : SlV .int σ xs x) (hb : xs.length ≤ 4611686018427387904)
    (hf : ∀ n ∈ xs, ∀ {Rt : Type} (K : AVal → Heap → Option Rt), callV S.slices_IndexFunc_int_int.T f [.int .i64 n] σ K = K (.bool (p n)) σ) :
    W (S.slices_ContainsFunc_int_int x f σ) fun r => r = (xs.any p, σ) := by
  unfold S.slices_ContainsFunc_int_int
  refine W.call (indexFunc_w p hx hb hf) fun r ⟨h1, h2⟩ => ?_
  obtain ⟨r, τ⟩ := r
  simp only at h1 h2; subst h1
  repeat' (with_reducible refine W.ret ?_)
  cases h : xs.findIdx? p with
  | none =>
    rw [h] at h2; simp only at h2; subst h2
    rw [List.findIdx?_eq_none_iff] at h
    have : xs.any p = false := by rw [List.any_eq_false]; intro a ha; simp [h a ha]
    rw [this]; rfl
  | some k =>
    rw [h] at h2; simp only at h2; subst h2
    rw [List.findIdx?_eq_some_iff_getElem] at h
    obtain ⟨h1, h2, _⟩ := h
    have : xs.any p = true := List.any_eq_true.2 ⟨_, List.getElem_mem h1, h2⟩
    rw [this]
    have : decide ((k : Int) ≥ 0) = true := by simp
    rw [this]

/-! ### Clauses -/
def badC (vars : Int) (c : List Int) : Bool := c.any fun l => !isL l vars
def chkC (vars : Int) (cs : List (List Int)) : Flt :=
  if vars < 0 ∨ vars > 4000 ∨ cs.length > 20000 ∨ cs.flatten.length > 80000 then some (.limit, none)
  else (cs.findIdx? (badC vars)).map fun k => (.range, some (k : Int))

theorem flat_take_le (zs : List (List Int)) (i : Nat) : (zs.take i).flatten.length ≤ zs.flatten.length := take_flat_le zs i
theorem flat_mem {zs : List (List Int)} {z : List Int} (h : z ∈ zs) : z.length ≤ zs.flatten.length := by
  obtain ⟨i, hi, e⟩ := List.getElem_of_mem h
  have h1 := flat_take_le zs (i + 1)
  rw [take_succ_flat (z := z) (by rw [List.getElem?_eq_getElem hi, e]), List.length_append] at h1
  omega

theorem findIdx_none {α : Type} {p : α → Bool} {xs : List α} {i : Nat} (h : ∀ j a, j < i → xs[j]? = some a → p a = false) (hi : xs.length ≤ i) : xs.findIdx? p = none := by
  rw [List.findIdx?_eq_none_iff]
  intro a ha
  obtain ⟨j, hj, e⟩ := List.getElem_of_mem ha
  exact h j a (by omega) (by rw [List.getElem?_eq_getElem hj, e])
theorem findIdx_some {α : Type} {p : α → Bool} {xs : List α} {i : Nat} {a : α} (h : ∀ j a, j < i → xs[j]? = some a → p a = false) (ha : xs[i]? = some a) (hp : p a = true) : xs.findIdx? p = some i := by
  rw [List.findIdx?_eq_some_iff_getElem]
  obtain ⟨h1, h2⟩ := List.getElem?_eq_some_iff.1 ha
  refine ⟨h1, by rw [h2]; exact hp, fun j hj => ?_⟩
  have := h j xs[j] hj (List.getElem?_eq_getElem _)
  simp [this]

/-- The count of all literals. -/
theorem litsCount_w {σ : Heap} {cs : List (List Int)} {p x : AVal} (hx : SlV vIs σ cs x) (hb : cs.flatten.length ≤ 1000000000) (hl : cs.length ≤ 1000000000) :
    W (loopP (S.lits_Check.b0 p x cs.length σ) (0, 0)) fun r => r = (cs.flatten.length : Int) := by
  refine W.loopP cs.length (fun i y => y = (((cs.take i).flatten.length : Int), (i : Int))) (by simp) fun i y hi hI => ?_
  subst hI
  unfold S.lits_Check.b0
  dsimp only
  repeat' (first | (with_reducible refine W.stopP ?_) | (with_reducible refine W.cnd (fun hc => ?_) (fun hc => ?_) <;> (try simp only [q1, q2, q3, q4, q5, q6, q7, q8, q9, q10, q11, q12, q13, q14, q15, q16, q17, q18, q19, q20, q21, q22, q23, q24, q25, q26, q27, q28, q29, q30] at hc) <;> (try (exfalso; omega))))
  · refine W.ixSn hx (by omega) (by omega) fun z w hz hw => ?_
    rw [Int.toNat_natCast] at hz
    repeat' (with_reducible (first | refine W.nextP ?_ | refine W.len (by assumption) ?_))
    have h1 := flat_take_le cs (i + 1)
    rw [take_succ_flat hz, List.length_append] at h1
    refine ⟨by omega, ?_⟩
    rw [take_succ_flat hz, List.length_append, sk]
    congr 1
    rw [wrapS] <;> omega
  · rw [List.take_of_length_le (by omega)]

theorem litsCheck_w {σ : Heap} {vars : Int} {cs : List (List Int)} {x : AVal} (hg : GlS [.limit, .range] σ) (hx : SlV vIs σ cs x) (hb : cs.flatten.length ≤ 1000000000) (hn : cs.length ≤ 1000000000) :
    W (S.lits_Check (.agg [.int .i64 vars, x]) σ) fun r => IsF r.2 r.1 (chkC vars cs) ∧ Hle σ r.2 := by
  unfold S.lits_Check
  repeat' (with_reducible refine W.aggK (by with_unfolding_all rfl) ?_)
  refine W.new fun l τ hl L h hnτ => ?_
  replace hg := hg.mono L
  replace hx := hx.mono L
  have hnx := L.next
  repeat' (with_reducible (first | refine W.bind ?_ | refine W.asV ?_ | refine W.len (by assumption) ?_ | refine W.ldL (by assumption) (by with_unfolding_all rfl) ?_))
  refine W.mono (litsCount_w hx hb hn) fun r hr => ?_
  subst hr
  by_cases hbad : vars < 0 ∨ vars > 4000 ∨ cs.length > 20000 ∨ cs.flatten.length > 80000
  · have e : chkC vars cs = some (.limit, none) := if_pos hbad
    rw [e]
    repeat' (first | (with_reducible (first | refine W.ret ?_ | refine W.bind ?_ | refine W.asI ?_ | refine W.asV ?_ | refine W.len (by assumption) ?_ | refine W.ldL (by assumption) (by with_unfolding_all rfl) ?_)) | (with_reducible refine W.condT ?_ ?_; focus (first | (simp only [q1, q2, q3, q4, q5, q6, q7, q8, q9, q10, q11, q12, q13, q14, q15, q16, q17, q18, q19, q20, q21, q22, q23, q24, q25, q26, q27, q28, q29, q30]; done) | (simp only [q1, q2, q3, q4, q5, q6, q7, q8, q9, q10, q11, q12, q13, q14, q15, q16, q17, q18, q19, q20, q21, q22, q23, q24, q25, q26, q27, q28, q29, q30]; omega) | assumption)) | (with_reducible refine W.cnd (fun hc => ?_) (fun hc => ?_) <;> (try simp only [q1, q2, q3, q4, q5, q6, q7, q8, q9, q10, q11, q12, q13, q14, q15, q16, q17, q18, q19, q20, q21, q22, q23, q24, q25, q26, q27, q28, q29, q30] at hc) <;> (try (exfalso; omega))))
    all_goals
      refine W.glob hg .limit fun v hv => ?_
      repeat' (with_reducible refine W.ret ?_)
      exact ⟨hv, L⟩
  · have e : chkC vars cs = (cs.findIdx? (badC vars)).map fun k => (.range, some (k : Int)) := if_neg hbad
    rw [e]
    repeat' (first | (with_reducible (first | refine W.ret ?_ | refine W.bind ?_ | refine W.asI ?_ | refine W.asV ?_ | refine W.len (by assumption) ?_ | refine W.ldL (by assumption) (by with_unfolding_all rfl) ?_)) | (with_reducible refine W.condF ?_ ?_; focus (first | (simp only [q1, q2, q3, q4, q5, q6, q7, q8, q9, q10, q11, q12, q13, q14, q15, q16, q17, q18, q19, q20, q21, q22, q23, q24, q25, q26, q27, q28, q29, q30]; done) | (simp only [q1, q2, q3, q4, q5, q6, q7, q8, q9, q10, q11, q12, q13, q14, q15, q16, q17, q18, q19, q20, q21, q22, q23, q24, q25, q26, q27, q28, q29, q30]; omega) | assumption)))
    refine W.loop cs.length (fun i x τ' => x = (i : Int) ∧ Hle τ τ' ∧ ∀ j a, j < i → cs[j]? = some a → badC vars a = false) ⟨rfl, Hle.refl _, upto0⟩ fun i x τ' hi hI => ?_
    obtain ⟨rfl, L', hI⟩ := hI
    unfold S.lits_Check.b1
    (with_reducible refine W.cnd (fun hc => ?_) (fun hc => ?_) <;> (try simp only [q1, q2, q3, q4, q5, q6, q7, q8, q9, q10, q11, q12, q13, q14, q15, q16, q17, q18, q19, q20, q21, q22, q23, q24, q25, q26, q27, q28, q29, q30] at hc) <;> (try (exfalso; omega)))
    · refine W.ixSnc (hx.mono L') (by omega) fun z w hz hw => ?_
      have hbz := flat_mem (List.mem_of_getElem? hz)
      refine W.call (containsFunc_w (fun n => !isL n vars) hw (by omega) fun n hn Rt K => ?_) fun r hr => ?_
      · have hcell := (h.mono L').at.cell (k := 0) rfl
        show ((S.lits_Check_1 n (.ptr l 0) τ').bind fun x => K (retV [.B] x) τ') = _
        unfold S.lits_Check_1
        simp only [fld, ld, hcell, asK, if_true, litsIs_eq (σ := τ') (l := n) (vars := vars) (by omega) (by omega), Option.bind_some]
        rfl
      subst hr
      (with_reducible refine W.cnd (fun hq => ?_) (fun hq => ?_) <;> (try simp only [q1, q2, q3, q4, q5, q6, q7, q8, q9, q10, q11, q12, q13, q14, q15, q16, q17, q18, q19, q20, q21, q22, q23, q24, q25, q26, q27, q28, q29, q30] at hq) <;> (try (exfalso; omega)))
      · refine W.glob (hg.mono L') .range fun v hv => W.escal hv ?_
        refine W.new fun k τ2 hk L2 hk hnτ2 => ?_
        repeat' (with_reducible (first | refine W.stop ?_ | refine W.ret ?_))
        rw [findIdx_some (p := badC vars) (i := i) hI hz hq]
        exact ⟨⟨k, v, rfl, hk.at, hv.mono L2⟩, (L.mono L').mono L2⟩
      · repeat' (with_reducible refine W.next ?_)
        exact ⟨by omega, sk, L', upto (P := fun _ a => badC vars a = false) hI hz hq⟩
    · repeat' (with_reducible (first | refine W.stop ?_ | refine W.ret ?_))
      rw [findIdx_none (p := badC vars) (i := i) hI (by omega)]
      exact ⟨rfl, L.mono L'⟩
end Go.Proofs.YtgneblbblihaoaaGreatDoor.A

/- Formulas, checked: the program's way, the reference's way. -/
namespace Go.Proofs.YtgneblbblihaoaaGreatDoor.A
open Go
theorem drop_at {α : Type} {xs : List α} {i : Nat} {z : α} (h : xs[i]? = some z) : xs.drop i = z :: xs.drop (i + 1) := by
  obtain ⟨h1, h2⟩ := List.getElem?_eq_some_iff.1 h
  rw [List.drop_eq_getElem_cons h1, h2]

theorem refCount_w {σ : Heap} {vars : Int} {cs : List (List Int)} {p x : AVal} {l : Nat} (h : Loc σ l [.int .i64 vars, x]) (hx : SlV vIs σ cs x) (hb : cs.flatten.length ≤ 1000000000) (hn : cs.length ≤ 1000000000) :
    W (loopP (S.skolemref1_CheckCNF.b0 (.ptr l 0) p σ) (0, 0)) fun r => r = (cs.flatten.length : Int) := by
  refine W.loopP cs.length (fun i y => y = (((cs.take i).flatten.length : Int), (i : Int))) (by simp) fun i y hi hI => ?_
  subst hI
  unfold S.skolemref1_CheckCNF.b0
  dsimp only
  repeat' (first | (with_reducible (first | refine W.stopP ?_ | refine W.asV ?_ | refine W.fldp ?_ | refine W.len (by assumption) ?_ | refine W.ldL (by assumption) (by with_unfolding_all rfl) ?_)) | (with_reducible refine W.cnd (fun hc => ?_) (fun hc => ?_) <;> (try simp only [q1, q2, q3, q4, q5, q6, q7, q8, q9, q10, q11, q12, q13, q14, q15, q16, q17, q18, q19, q20, q21, q22, q23, q24, q25, q26, q27, q28, q29, q30] at hc) <;> (try (exfalso; omega))))
  · refine W.ixSnc hx (by omega) fun z w hz hw => ?_
    repeat' (with_reducible (first | refine W.nextP ?_ | refine W.len (by assumption) ?_))
    have h1 := flat_take_le cs (i + 1)
    rw [take_succ_flat hz, List.length_append] at h1
    refine ⟨by omega, ?_⟩
    rw [take_succ_flat hz, List.length_append, sk]
    congr 1
    rw [wrapS] <;> omega
  · rw [List.take_of_length_le (by omega)]

theorem refCheckCNF_w {σ : Heap} {vars : Int} {cs : List (List Int)} {x : AVal} (hx : SlV vIs σ cs x) (hb : cs.flatten.length ≤ 1000000000) (hn : cs.length ≤ 1000000000) :
    W (S.skolemref1_CheckCNF (.agg [.int .i64 vars, x]) σ) fun r => r.1 = .agg (fcells (chkC vars cs)) ∧ Hle σ r.2 := by
  unfold S.skolemref1_CheckCNF
  repeat' (with_reducible refine W.aggK (by with_unfolding_all rfl) ?_)
  refine W.new fun l τ hl L h hnτ => ?_
  refine W.new fun l2 τ2 hl2 L2 h2 hnτ2 => ?_
  replace h := h.mono L2
  replace L := L.mono L2
  have hnx := L2.next
  replace hx := hx.mono L
  have hnx := L.next
  refine W.call (refCount_w h hx hb hn) fun r hr => ?_
  subst hr
  by_cases hbad : vars < 0 ∨ vars > 4000 ∨ cs.length > 20000 ∨ cs.flatten.length > 80000
  · have e : chkC vars cs = some (.limit, none) := if_pos hbad
    rw [e]
    repeat' (first | (with_reducible (first | refine W.ret ?_ | refine W.bind ?_ | refine W.asI ?_ | refine W.asV ?_ | refine W.len (by assumption) ?_ | refine W.ldL (by assumption) (by with_unfolding_all rfl) ?_)) | (with_reducible refine W.condT ?_ ?_; focus (first | (simp only [q1, q2, q3, q4, q5, q6, q7, q8, q9, q10, q11, q12, q13, q14, q15, q16, q17, q18, q19, q20, q21, q22, q23, q24, q25, q26, q27, q28, q29, q30]; done) | (simp only [q1, q2, q3, q4, q5, q6, q7, q8, q9, q10, q11, q12, q13, q14, q15, q16, q17, q18, q19, q20, q21, q22, q23, q24, q25, q26, q27, q28, q29, q30]; omega) | assumption)) | (with_reducible refine W.cnd (fun hc => ?_) (fun hc => ?_) <;> (try simp only [q1, q2, q3, q4, q5, q6, q7, q8, q9, q10, q11, q12, q13, q14, q15, q16, q17, q18, q19, q20, q21, q22, q23, q24, q25, q26, q27, q28, q29, q30] at hc) <;> (try (exfalso; omega))))
    all_goals
      refine W.mono bare_w fun r hr => ?_
      obtain ⟨r, τ3⟩ := r; obtain ⟨hr, L3⟩ := hr; dsimp only at hr L3 ⊢; subst hr
      replace h2 := h2.mono L3
      replace L := L.mono L3
      have hnx := L3.next
      repeat' (with_reducible refine W.aggK (by with_unfolding_all rfl) ?_)
      refine W.st0 h2 (by rfl) fun τ4 L4 hnτ4 h2 => ?_
      repeat' (with_reducible (first | refine W.ret ?_ | refine W.ldGL (by assumption) (Nat.le_of_ble_eq_true (by with_unfolding_all rfl)) ?_))
      exact ⟨rfl, L.ofk (by omega) L4⟩
  · have e : chkC vars cs = (cs.findIdx? (badC vars)).map fun k => (.range, some (k : Int)) := if_neg hbad
    rw [e]
    repeat' (first | (with_reducible (first | refine W.ret ?_ | refine W.bind ?_ | refine W.asI ?_ | refine W.asV ?_ | refine W.len (by assumption) ?_ | refine W.ldL (by assumption) (by with_unfolding_all rfl) ?_)) | (with_reducible refine W.condF ?_ ?_; focus (first | (simp only [q1, q2, q3, q4, q5, q6, q7, q8, q9, q10, q11, q12, q13, q14, q15, q16, q17, q18, q19, q20, q21, q22, q23, q24, q25, q26, q27, q28, q29, q30]; done) | (simp only [q1, q2, q3, q4, q5, q6, q7, q8, q9, q10, q11, q12, q13, q14, q15, q16, q17, q18, q19, q20, q21, q22, q23, q24, q25, q26, q27, q28, q29, q30]; omega) | assumption)))
    refine W.loop cs.length (fun i x τ' => x = (i : Int) ∧ τ2 = τ' ∧ ∀ j a, j < i → cs[j]? = some a → badC vars a = false) ⟨rfl, rfl, upto0⟩ fun i x τ' hi hI => ?_
    obtain ⟨rfl, rfl, hI⟩ := hI
    unfold S.skolemref1_CheckCNF.b2
    repeat' (first | (with_reducible (first | refine W.stop ?_ | refine W.bind ?_ | refine W.asV ?_ | refine W.fldp ?_ | refine W.len (by assumption) ?_ | refine W.ldL (by assumption) (by with_unfolding_all rfl) ?_)) | (with_reducible refine W.cnd (fun hc => ?_) (fun hc => ?_) <;> (try simp only [q1, q2, q3, q4, q5, q6, q7, q8, q9, q10, q11, q12, q13, q14, q15, q16, q17, q18, q19, q20, q21, q22, q23, q24, q25, q26, q27, q28, q29, q30] at hc) <;> (try (exfalso; omega))))
    · obtain ⟨z, hz⟩ : ∃ z, cs[i]? = some z := ⟨_, List.getElem?_eq_getElem (by omega)⟩
      have hbz := flat_mem (List.mem_of_getElem? hz)
      have key : W (loopW (S.skolemref1_CheckCNF.b1 (.ptr l 0) (.ptr l2 0) (i : Int)) 0 τ2) fun r => (r = (.inl (), τ2) ∧ badC vars z = false) ∨ ((∃ u, r.1 = .inr u) ∧ badC vars z = true ∧ Hle (τ2.kill l2) r.2 ∧ Loc r.2 l2 (fcells (some (.range, some (i : Int))))) := by
        refine W.loop z.length (fun k x τ' => x = (k : Int) ∧ τ2 = τ' ∧ ∀ j a, j < k → z[j]? = some a → isL a vars = true) ⟨rfl, rfl, upto0⟩ fun k x τ' hk hJ => ?_
        obtain ⟨rfl, rfl, hJ⟩ := hJ
        unfold S.skolemref1_CheckCNF.b1
        repeat' (with_reducible (first | refine W.asV ?_ | refine W.fldp ?_ | refine W.ldL (by assumption) (by with_unfolding_all rfl) ?_))
        refine W.ixSc hx hz fun w hw => ?_
        repeat' (first | (with_reducible (first | refine W.stop ?_ | refine W.asV ?_ | refine W.fldp ?_ | refine W.len (by assumption) ?_ | refine W.ldL (by assumption) (by with_unfolding_all rfl) ?_)) | (with_reducible refine W.cnd (fun hc => ?_) (fun hc => ?_) <;> (try simp only [q1, q2, q3, q4, q5, q6, q7, q8, q9, q10, q11, q12, q13, q14, q15, q16, q17, q18, q19, q20, q21, q22, q23, q24, q25, q26, q27, q28, q29, q30] at hc) <;> (try (exfalso; omega))))
        · refine W.ixSc hx hz fun w hw => ?_
          refine W.ixInc hw (by omega) fun n hn => ?_
          repeat' (with_reducible (first | refine W.bind ?_ | refine W.asI ?_ | refine W.fldp ?_ | refine W.ldL (by assumption) (by with_unfolding_all rfl) ?_))
          refine W.to (refIs_eq (by omega) (by omega)) ?_
          repeat' (with_reducible refine W.ret ?_)
          (with_reducible refine W.cnd (fun hq => ?_) (fun hq => ?_) <;> (try simp only [q1, q2, q3, q4, q5, q6, q7, q8, q9, q10, q11, q12, q13, q14, q15, q16, q17, q18, q19, q20, q21, q22, q23, q24, q25, q26, q27, q28, q29, q30] at hq) <;> (try (exfalso; omega)))
          · refine W.call (placed_w (by decide)) fun r hr => ?_
            obtain ⟨r, τ3⟩ := r; obtain ⟨hr, L3⟩ := hr; dsimp only at hr L3 ⊢; subst hr
            replace h2 := h2.mono L3
            have hnx := L3.next
            repeat' (with_reducible refine W.aggK (by with_unfolding_all rfl) ?_)
            refine W.st0 h2 (by rfl) fun τ4 L4 hnτ4 h2 => ?_
            repeat' (with_reducible refine W.stop ?_)
            refine .inr ⟨⟨_, rfl⟩, ?_, (L3.killed l2).mono L4, h2⟩
            exact List.any_eq_true.2 ⟨n, List.mem_of_getElem? hn, by simp [hq]⟩
          · repeat' (with_reducible refine W.next ?_)
            exact ⟨by omega, sk, rfl, upto (P := fun _ a => isL a vars = true) hJ hn hq⟩
        · refine .inl ⟨rfl, ?_⟩
          refine List.any_eq_false.2 fun a ha => ?_
          obtain ⟨j, hj, e⟩ := List.getElem_of_mem ha
          simp [hJ j a (by omega) (by rw [List.getElem?_eq_getElem hj, e])]
      refine W.mono key fun r hr => ?_
      obtain ⟨r, τ3⟩ := r
      rcases hr with ⟨hr, hq⟩ | ⟨⟨u, hr⟩, hq, L3, h3⟩
      · cases hr
        repeat' (with_reducible refine W.next ?_)
        exact ⟨by omega, sk, rfl, upto (P := fun _ a => badC vars a = false) hI hz hq⟩
      · simp only at hr; subst hr
        repeat' (with_reducible (first | refine W.stop ?_ | refine W.ret ?_ | refine W.ldGL (by assumption) (Nat.le_of_ble_eq_true (by with_unfolding_all rfl)) ?_))
        rw [findIdx_some (p := badC vars) (i := i) hI hz hq]
        exact ⟨rfl, L.ofk (by omega) L3⟩
    · refine W.mono none_w fun r hr => ?_
      obtain ⟨r, τ3⟩ := r; obtain ⟨hr, L3⟩ := hr; dsimp only at hr L3 ⊢; subst hr
      replace h2 := h2.mono L3
      have hnx := L3.next
      repeat' (with_reducible refine W.aggK (by with_unfolding_all rfl) ?_)
      refine W.st0 h2 (by rfl) fun τ4 L4 hnτ4 h2 => ?_
      repeat' (with_reducible (first | refine W.ret ?_ | refine W.ldGL (by assumption) (Nat.le_of_ble_eq_true (by with_unfolding_all rfl)) ?_))
      rw [findIdx_none (p := badC vars) (i := i) hI (by omega)]
      exact ⟨rfl, L.ofk (by omega) ((L3.killed l2).mono L4)⟩

theorem has_eq {σ : Heap} {xs : List Int} {x : AVal} {n : Int} (hx : SlV .int σ xs x) (hb : xs.length ≤ 4611686018427387904) : S.skolemref_Has x n σ = some (decide (n ∈ xs)) := by
  obtain ⟨r, e, rfl⟩ : W (S.skolemref_Has x n σ) fun r => r = decide (n ∈ xs) := by
    unfold S.skolemref_Has
    repeat' (with_reducible refine W.bind ?_)
    refine W.loopP xs.length (fun i y => y = (i : Int) ∧ ∀ j a, j < i → xs[j]? = some a → a ≠ n) ⟨rfl, upto0⟩ fun i y hi hI => ?_
    obtain ⟨rfl, hI⟩ := hI
    unfold S.skolemref_Has.b0
    repeat' (first | (with_reducible (first | refine W.stopP ?_ | refine W.ret ?_ | refine W.len (by assumption) ?_)) | (with_reducible refine W.cnd (fun hc => ?_) (fun hc => ?_) <;> (try simp only [q1, q2, q3, q4, q5, q6, q7, q8, q9, q10, q11, q12, q13, q14, q15, q16, q17, q18, q19, q20, q21, q22, q23, q24, q25, q26, q27, q28, q29, q30] at hc) <;> (try (exfalso; omega))))
    · refine W.ixInc hx (by omega) fun a ha => ?_
      (with_reducible refine W.cnd (fun hq => ?_) (fun hq => ?_) <;> (try simp only [q1, q2, q3, q4, q5, q6, q7, q8, q9, q10, q11, q12, q13, q14, q15, q16, q17, q18, q19, q20, q21, q22, q23, q24, q25, q26, q27, q28, q29, q30] at hq) <;> (try (exfalso; omega)))
      · repeat' (with_reducible (first | refine W.stopP ?_ | refine W.ret ?_))
        subst hq
        simp [List.mem_of_getElem? ha]
      · repeat' (with_reducible refine W.nextP ?_)
        exact ⟨by omega, sk, upto (P := fun _ a => a ≠ n) hI ha hq⟩
    · have : n ∉ xs := fun hm => by
        obtain ⟨j, hj, e⟩ := List.getElem_of_mem hm
        exact hI j n (by omega) (by rw [List.getElem?_eq_getElem hj, e]) rfl
      simp [this]
  exact e

theorem MapV.kill {σ : Heap} {l k : Nat} {ps : List (Int × AVal)} (h : MapV σ l ps) (hk : l ≠ k) : MapV (σ.kill k) l ps := ⟨h.lt, by rw [hkill_get, if_neg hk]; exact h.get, h.nodup⟩
end Go.Proofs.YtgneblbblihaoaaGreatDoor.A

/- Copies; free variables; merged blocks, by the reference. -/
namespace Go.Proofs.YtgneblbblihaoaaGreatDoor.A
open Go
section
variable {α β : Type} {v : Vw α} {σ τ : Heap} {xs : List α} {x : AVal} {n0 m : Nat}
end
/-- Slices from a place on. -/
def Vw.slF {α : Type} (n : Nat) (v : Vw α) : Vw (List α) := ⟨1, fun σ xs us => ∃ x, us = [x] ∧ SlV v σ xs x ∧ ∀ l off len c, x = .sl l off len c → n ≤ l, Nat.one_pos, fun h => by obtain ⟨_, rfl, _⟩ := h; rfl, fun L h => by
  obtain ⟨x, e, h, k⟩ := h
  exact ⟨x, e, h.mono L, k⟩⟩
/-- Data that lie from a place on. -/
def Vw.Over {α : Type} (n : Nat) (v : Vw α) : Prop := ∀ σ τ a us, σ.next ≤ τ.next → (∀ l o, n ≤ l → σ.get l = some o → τ.get l = some o) → v.rel σ a us → v.rel τ a us
theorem Vw.Flat.over {α : Type} {v : Vw α} (h : v.Flat) (n : Nat) : v.Over n := fun σ τ a us _ _ k => h σ τ a us k
theorem Vw.slF_over {α : Type} {v : Vw α} {n : Nat} (h : v.Over n) : (v.slF n).Over n := fun σ τ xs us hn hg k => by
  obtain ⟨x, e, k1, k2⟩ := k
  refine ⟨x, e, ?_, k2⟩
  rcases k1 with k1 | ⟨l, off, c, md, cs, rfl, h2, h3, h4, h5⟩
  · exact .inl k1
  · exact .inr ⟨l, off, c, md, cs, rfl, by omega, hg _ _ (k2 _ _ _ _ rfl) h3, h4, fun i a hi => h _ _ _ _ hn hg (h5 i a hi)⟩
theorem SlV.map {α : Type} {v w : Vw α} (hs : w.sz = v.sz) (hr : ∀ σ a us, v.rel σ a us → w.rel σ a us) {σ : Heap} {xs : List α} {x : AVal} (h : SlV v σ xs x) : SlV w σ xs x := by
  rcases h with h | ⟨l, off, c, md, cs, h1, h2, h3, h4, h5⟩
  · exact .inl h
  · exact .inr ⟨l, off, c, md, cs, h1, h2, by rw [hs]; exact h3, by rw [hs]; exact h4, fun i a hi => by rw [hs]; exact hr _ _ _ (h5 i a hi)⟩
theorem Acc.from {α : Type} {v : Vw α} {σ : Heap} {xs : List α} {x : AVal} {n0 n : Nat} (h : Acc v n0 σ xs x) (hn : n ≤ n0) : ∀ l off len c, x = .sl l off len c → n ≤ l := fun l off len c e => Nat.le_trans hn (h.loc l off len c e).1
def vIsF (n : Nat) : Vw (List Int) := Vw.slF n .int
theorem vIsF_over (n : Nat) : (vIsF n).Over n := Vw.slF_over (Vw.int_flat.over n)
theorem SlV.ofIsF {σ : Heap} {n : Nat} {xs : List (List Int)} {x : AVal} (h : SlV (vIsF n) σ xs x) : SlV vIs σ xs x := SlV.map (v := vIsF n) (w := vIs) rfl (h := h) fun σ a us k => by
  obtain ⟨y, rfl, h, _⟩ := k
  exact vIs_one h

theorem ints_w {σ : Heap} {xs : List Int} {x : AVal} (hx : SlV .int σ xs x) (hb : xs.length ≤ 1000000000) : W (S.skolemref_Ints x σ) fun r => Acc .int σ.next r.2 xs r.1 ∧ Hle σ r.2 := by
  unfold S.skolemref_Ints
  repeat' (with_reducible refine W.len (by assumption) ?_)
  refine W.mk0 .int (by omega) (by omega) fun y τ L hA => ?_
  repeat' (with_reducible refine W.bind ?_)
  refine W.loop xs.length (fun i y τ => y.2 = (i : Int) ∧ Hle σ τ ∧ Acc .int σ.next τ (xs.take i) y.1) ⟨rfl, L, by simpa using hA⟩ fun i y τ hi hI => ?_
  obtain ⟨y, j⟩ := y
  obtain ⟨rfl, L, hA⟩ := hI
  unfold S.skolemref_Ints.b0
  dsimp only
  repeat' (first | (with_reducible (first | refine W.stop ?_ | refine W.ret ?_ | refine W.len (by assumption) ?_)) | (with_reducible refine W.cnd (fun hc => ?_) (fun hc => ?_) <;> (try simp only [q1, q2, q3, q4, q5, q6, q7, q8, q9, q10, q11, q12, q13, q14, q15, q16, q17, q18, q19, q20, q21, q22, q23, q24, q25, q26, q27, q28, q29, q30] at hc) <;> (try (exfalso; omega))))
  · refine W.ixInc (hx.mono L) (by omega) fun a ha => ?_
    refine W.pushI hA L (by simp; omega) (by simp; omega) fun y' τ' L' hA' _ => ?_
    repeat' (with_reducible refine W.next ?_)
    exact ⟨by omega, sk, L', by rw [List.take_add_one, ha]; exact hA'⟩
  · rw [List.take_of_length_le (by omega)] at hA
    exact ⟨hA, L⟩

/-! ### Merged blocks -/
theorem W.at {α R : Type} {v : Vw α} {n0 : Nat} {σ : Heap} {xs : List α} {x : AVal} (h : Acc v n0 σ xs x) {i : Nat} {a : α} (hi : xs[i]? = some a) {K : AVal → Option R} {Q : R → Prop}
    (c : ∀ l o us, At σ (.ptr l o) us → v.rel (A.out σ x) a us → (∀ k vs a', k + vs.length ≤ v.sz → v.rel (A.out σ x) a' (us.take k ++ vs ++ us.drop (k + vs.length)) →
      ∃ τ, (∀ {Rt : Type} (K : Heap → Option Rt), stC σ (.ptr l (o + k)) vs K = K τ) ∧ Acc v n0 τ (xs.set i a') x ∧ (∀ σ0 : Heap, σ0.next ≤ n0 → Hle σ0 σ → Hle σ0 τ) ∧ Hle (A.out σ x) (A.out τ x) ∧ τ.next = σ.next) → W (K (.ptr l o)) Q) {sz : Nat} (hs : sz = v.sz := by rfl) :
    W (ixA σ x sz (i : Int) K) Q := by
  subst hs
  obtain ⟨l, o, us, h1, h2, h3, h4⟩ := h.at hi
  exact W.to (h1 K) (c l o us h2 h3 h4)

end Go.Proofs.YtgneblbblihaoaaGreatDoor.A

/- PrefixMerges, as0 plain law. -/
namespace Go.Proofs.YtgneblbblihaoaaGreatDoor.A
open Go
def vars (bs : List (Bool × List Int)) : List Int := (bs.map (·.2)).flatten
end Go.Proofs.YtgneblbblihaoaaGreatDoor.A

/- Free variables: the program's way, the reference's way. -/
namespace Go.Proofs.YtgneblbblihaoaaGreatDoor.A
open Go
/-! ### Rising lists -/
def Rising (xs : List Int) : Prop := xs.Pairwise (· < ·)
/-- The keys of a map. -/
def KeyM (ps : List (Int × AVal)) (P : Int → Prop) : Prop := ∀ v, v ∈ keysOf ps ↔ P v
theorem key_look {ps : List (Int × AVal)} {v : Int} : v ∈ keysOf ps ↔ look ps v ≠ none := by
  have := look_none (ps := ps) (n := v)
  constructor
  · intro h e; exact this.1 e h
  · intro h; exact Classical.byContradiction fun k => h (this.2 k)
theorem KeyM.del {ps qs : List (Int × AVal)} {P : Int → Prop} (h : KeyM ps P) {n : Int} (hq : ∀ k, look qs k = if k = n then none else look ps k) : KeyM qs fun v => P v ∧ v ≠ n := fun v => by
  rw [key_look, hq]
  by_cases hv : v = n
  · simp [hv]
  · rw [if_neg hv, ← key_look, h v]; simp [hv]
theorem KeyM.of {ps : List (Int × AVal)} {P Q : Int → Prop} (h : KeyM ps P) (e : ∀ v, P v ↔ Q v) : KeyM ps Q := fun v => (h v).trans (e v)
end Go.Proofs.YtgneblbblihaoaaGreatDoor.A

/- Free variables, whole. -/
namespace Go.Proofs.YtgneblbblihaoaaGreatDoor.A
open Go
theorem W.ub {R S : Type} {o : Option S} {K : S → Option R} {Q : R → Prop} (h : W (o.bind K) Q) : W o fun r => W (K r) Q := by
  obtain ⟨r, he, hq⟩ := h
  rw [Option.bind_eq_some_iff] at he
  obtain ⟨a, h5, h6⟩ := he
  exact ⟨a, h5, r, h6, hq⟩
end Go.Proofs.YtgneblbblihaoaaGreatDoor.A

/- Free variables, by the reference. -/
namespace Go.Proofs.YtgneblbblihaoaaGreatDoor.A
open Go
structure FI (τ ρ : Heap) (V : List Int) (P : Int → Prop) (sx oy : AVal) (N : Nat) (seen outs : List Int) : Prop where
  L : Hle τ ρ
  s : Acc .int τ.next ρ seen sx
  o : Acc .int τ.next (out ρ sx) outs oy
  r : Rising outs
  ms : ∀ v, v ∈ seen ↔ v ∈ V ∨ P v
  mo : ∀ v, v ∈ outs ↔ P v ∧ v ∉ V
  n : seen.length ≤ N
  no : outs.length ≤ N

theorem FI.of {τ ρ : Heap} {V : List Int} {P P' : Int → Prop} {sx oy : AVal} {N N' : Nat} {seen outs : List Int} (h : FI τ ρ V P sx oy N seen outs) (e : ∀ v, P v ↔ P' v) (hN : N ≤ N') : FI τ ρ V P' sx oy N' seen outs :=
  ⟨h.L, h.s, h.o, h.r, fun v => by rw [h.ms, e], fun v => by rw [h.mo, e], Nat.le_trans h.n hN, Nat.le_trans h.no hN⟩

end Go.Proofs.YtgneblbblihaoaaGreatDoor.A

/- The game of a formula: the program's way. -/
namespace Go.Proofs.YtgneblbblihaoaaGreatDoor.A
open Go
theorem clone_w {σ : Heap} {xs : List Int} {x : AVal} (h : SlV .int σ xs x) (hb : xs.length ≤ 1000000) : W (S.slices_Clone_int_int x σ) fun r => Acc .int σ.next r.2 xs r.1 ∧ Hle σ r.2 := by
  obtain ⟨y, τ, e, L, hA⟩ := clone_eq h hb
  exact ⟨_, e, hA, L⟩

/-! ### Games -/
abbrev Gm := Bool × List Int × List Int × List (List Int)
/-- A game's cells. -/
def GmV (σ : Heap) (g : Gm) (us : List AVal) : Prop := ∃ o i c, us = [.bool g.1, o, i, c] ∧ SlV .int σ g.2.1 o ∧ SlV .int σ g.2.2.1 i ∧ SlV vIs σ g.2.2.2 c
theorem GmV.mono {σ τ : Heap} {g : Gm} {us : List AVal} (h : GmV σ g us) (L : Hle σ τ) : GmV τ g us := by
  obtain ⟨o, i, c, e, h1, h2, h3⟩ := h
  exact ⟨o, i, c, e, h1.mono L, h2.mono L, h3.mono L⟩
theorem Acc.one {α : Type} {v : Vw α} {σ τ : Heap} {a : α} {us : List AVal} {l n0 : Nat} (hl : l = σ.next) (hg : τ.get l = some (.cells .rw v.sz us)) (hn : τ.next = σ.next + 1) (L : Hle σ τ) (h : v.rel σ a us) (h0 : n0 ≤ σ.next) : Acc v n0 τ [a] (.sl l 0 1 none) :=
  .inr ⟨l, us, rfl, by omega, by omega, hg, by rw [v.len h]; simp, fun i b hi => by
    match i, hi with
    | 0, hi =>
      cases hi
      have : (us.drop (0 * v.sz)).take v.sz = us := by rw [Nat.zero_mul, List.drop_zero]; exact List.take_of_length_le (by rw [v.len h]; exact Nat.le_refl _)
      rw [this]
      exact v.mono (L.kill (by omega)) h
    | k + 1, hi => simp at hi⟩

theorem IsE.kill {σ : Heap} {v : AVal} {e : Er} {k : Nat} {cs : List AVal} (h : IsE σ v e) (hk : Loc σ k cs) : IsE (σ.kill k) v e := by
  obtain ⟨h1, h2, j, rfl, h4, h5⟩ := h
  obtain ⟨sz, e1⟩ := hk.get
  have n1 : e.g ≠ k := fun e => by rw [e, e1] at h2; cases h2
  have n2 : j ≠ k := fun e => by rw [e, e1] at h5; cases h5
  exact ⟨h1, by rw [hkill_get, if_neg n1]; exact h2, j, rfl, h4, by rw [hkill_get, if_neg n2]; exact h5⟩
theorem IsF.kill {σ : Heap} {v : AVal} {f : Flt} {k : Nat} {b : Bool} {cs : List AVal} (h : IsF σ v f) (hk : Loc σ k (.bool b :: cs)) : IsF (σ.kill k) v f := by
  match f, h with
  | none, h => exact h
  | some (e, none), h => exact IsE.kill h hk
  | some (e, some pos), h =>
    obtain ⟨l, u, h1, h2, h3⟩ := h
    refine ⟨l, u, h1, h2.kill fun o ho => ?_, h3.kill hk⟩
    cases ho
    have c1 := h2.cell (k := 0) rfl
    have c2 := hk.at.cell (k := 0) rfl
    rw [c1] at c2
    cases c2

end Go.Proofs.YtgneblbblihaoaaGreatDoor.A

/- Clauses in normal form: the program's way. -/
namespace Go.Proofs.YtgneblbblihaoaaGreatDoor.A
open Go
theorem set_set (τ : Heap) (l : Nat) (a b : AObj) : (τ.set l a).set l b = τ.set l b := by
  simp only [Heap.set, Heap.mk.injEq, true_and]
  funext k
  by_cases h : k = l <;> simp [h]
theorem set_self {τ : Heap} {l : Nat} {o : AObj} (h : τ.get l = some o) : τ.set l o = τ := by
  cases τ with
  | mk n g =>
    simp only [Heap.set, Heap.mk.injEq, true_and]
    funext k
    by_cases e : k = l
    · subst e; rw [if_pos rfl]; exact h.symm
    · rw [if_neg e]
theorem get_set (τ : Heap) (l : Nat) (o : AObj) : (τ.set l o).get l = some o := by rw [hset_get, if_pos rfl]

section
variable {R : Type} {τ : Heap} {l off len : Nat} {c : Option Nat} {cs : List AVal} {Q : R → Prop}
theorem W.rd1 (hg : τ.get l = some (.cells .rw 1 cs)) {i : Int} (h0 : 0 ≤ i) (h1 : i < len) {a : Int} (hk : cs[off + i.toNat]? = some (AVal.int .i64 a)) {K : Int → Option R} (k : W (K a) Q) : W (ixA τ (.sl l off len c) 1 i fun p => ld τ p (.I .i64) K) Q := by
  refine W.to ?_ k
  simp only [ixA, hg]
  rw [if_pos ⟨trivial, h0, h1⟩, Nat.mul_one]
  simp [ld, Heap.cell, hg, hk, asK]
theorem W.wr1 (hg : τ.get l = some (.cells .rw 1 cs)) {i : Int} (h0 : 0 ≤ i) (h1 : i < len) (hlen : off + i.toNat < cs.length) {a : AVal} {K : Heap → Option R} (k : W (K (τ.set l (.cells .rw 1 (cs.set (off + i.toNat) a)))) Q) : W (ixA τ (.sl l off len c) 1 i fun p => stC τ p [a] K) Q := by
  refine W.to ?_ k
  simp only [ixA, hg]
  rw [if_pos ⟨trivial, h0, h1⟩, Nat.mul_one]
  simp only [stC, hg, List.length_singleton]
  rw [if_pos (by omega)]
  congr 4
  rw [List.set_eq_take_append_cons_drop, if_pos hlen]
  simp
end
theorem sortF_w {O : FuncId} {n0 : Nat} {τ : Heap} {xs : List Int} {y : AVal} (hA : Acc .int n0 τ xs y) (hb : xs.all inB = true) (hl : xs.length ≤ 1000000000) :
    W (sortFS O y (.fn (.func O) [] []) τ) fun r => Acc .int n0 r.2 (sortedO xs) y ∧ ∀ σ0 : Heap, σ0.next ≤ n0 → Hle σ0 τ → Hle σ0 r.2 := by
  unfold sortFS
  simp only [if_true]
  rcases hA with ⟨rfl, rfl⟩ | ⟨l, cs, rfl, h2, h3, h4, h5, h6⟩
  · exact W.ret ⟨.inl ⟨rfl, by simp [sortedO]⟩, fun σ0 _ L => L⟩
  · simp only []
    by_cases h0 : xs.length = 0
    · rw [if_pos h0]
      have : xs = [] := List.eq_nil_of_length_eq_zero h0
      subst this
      refine W.ret ⟨.inr ⟨l, cs, by simp [sortedO], h2, h3, h4, by simp [sortedO], fun i a hi => by simp [sortedO] at hi⟩, fun σ0 _ L => L⟩
    · rw [if_neg h0]
      have h4' : τ.get l = some (.cells .rw 1 cs) := h4
      have h5' : xs.length ≤ cs.length := by simpa [Vw.int] using h5
      simp only [h4']
      rw [if_pos ⟨by omega, by omega⟩]
      have hc : (cs.drop 0).take xs.length = xs.map (AVal.int .i64) := by
        rw [List.drop_zero]
        apply List.ext_getElem? fun i => ?_
        by_cases hi : i < xs.length
        · have := h6 i xs[i] (List.getElem?_eq_getElem hi)
          have this : (cs.drop (i * 1)).take 1 = [.int .i64 xs[i]] := this
          rw [Nat.mul_one] at this
          rw [List.getElem?_take_of_lt hi, List.getElem?_map, List.getElem?_eq_getElem hi, Option.map_some]
          have h7 : ((cs.drop i).take 1)[0]? = some (AVal.int .i64 xs[i]) := by rw [this]; rfl
          rw [List.getElem?_take_of_lt (by omega), List.getElem?_drop] at h7
          simpa using h7
        · rw [List.getElem?_eq_none (by simp; omega), List.getElem?_eq_none (by simp; omega)]
      rw [hc, intsL_map]
      simp only [hb, if_true]
      have hsl := sortedO_len xs
      refine W.ret ⟨.inr ⟨l, _, by rw [hsl], h2, h3, get_set _ _ _, by first | (simp [Vw.int]; done) | (simp [Vw.int]; omega), fun i a hi => ?_⟩, fun σ0 hn L => L.set (by omega) _⟩
      show _ = _
      have hi' := (List.getElem?_eq_some_iff.1 hi).1
      simp only [Vw.int, Nat.mul_one, List.take_zero, List.nil_append]
      rw [List.drop_append_of_le_length (by simp; omega), List.take_append_of_le_length (by simp; omega)]
      rw [List.drop_eq_getElem_cons (by simpa using hi')]
      obtain ⟨h8, h9⟩ := List.getElem?_eq_some_iff.1 hi
      simp [h9]

theorem take_getLast {xs : List Int} {i : Nat} {a : Int} (h : xs[i]? = some a) : (xs.take (i + 1)).getLast? = some a := by
  rw [List.take_add_one, h]; simp
theorem take_snoc {xs : List Int} {i : Nat} {a : Int} (h : xs[i]? = some a) : xs.take (i + 1) = xs.take i ++ [a] := by rw [List.take_add_one, h]; rfl

theorem compact_in {τ : Heap} {l k0 n : Nat} {cs0 : List AVal} {xs : List Int} (hn : xs.length = n) (hcl : n ≤ cs0.length) (hk0 : 0 < k0) (hk1 : k0 < n) (hnl : n ≤ 1000000000) (hd : xs[k0]? = xs[k0 - 1]?) (hR : compactL (xs.take k0) = xs.take k0)
    (hcs : ∀ (j : Nat) (a : Int), xs[j]? = some a → cs0[j]? = some (AVal.int .i64 a)) (hg : τ.get l = some (.cells .rw 1 cs0)) :
    W (loopW (S.slices_Compact_int_int.b0 (.sl l 0 n none) (.sl l k0 (n - k0) none)) ((k0 : Int), 1) τ) fun r => r.1 = ((compactL xs).length : Int) ∧ ∃ cs : List AVal, r.2 = τ.set l (.cells .rw 1 cs) ∧ cs.length = cs0.length ∧ cs.take (compactL xs).length = (compactL xs).map (AVal.int .i64) := by
  have hinit : compactL (xs.take (k0 + 1)) = xs.take k0 := by
    obtain ⟨a, ha⟩ : ∃ a, xs[k0]? = some a := ⟨_, List.getElem?_eq_getElem (by omega)⟩
    rw [take_snoc ha, compactL_push, hR]
    have : (xs.take k0).getLast? = some a := by
      have h1 := take_getLast (xs := xs) (i := k0 - 1) (a := a) (by rw [← hd, ha])
      rwa [show k0 - 1 + 1 = k0 by omega] at h1
    rw [if_pos this]
  refine W.loop (n - k0 - 1) (fun i (y : Int × Int) τ' => ∃ cs : List AVal, y = (((compactL (xs.take (k0 + 1 + i))).length : Int), (i : Int) + 1) ∧ τ' = τ.set l (.cells .rw 1 cs) ∧ cs.length = cs0.length ∧ (compactL (xs.take (k0 + 1 + i))).length ≤ k0 + i ∧
    cs.take (compactL (xs.take (k0 + 1 + i))).length = (compactL (xs.take (k0 + 1 + i))).map (AVal.int .i64) ∧ ∀ (j : Nat) (a : Int), k0 + i ≤ j → xs[j]? = some a → cs[j]? = some (AVal.int .i64 a))
    ⟨cs0, ?_, (set_self hg).symm, rfl, ?_, ?_, fun j a _ h => hcs j a h⟩ fun i y τ' hi hI => ?_
  · rw [Nat.add_zero, hinit]; simp; omega
  · rw [Nat.add_zero, hinit]; simp; omega
  · rw [Nat.add_zero, hinit]
    apply List.ext_getElem? fun j => ?_
    by_cases hj : j < k0
    · have hx := List.getElem?_eq_getElem (l := xs) (i := j) (by omega)
      rw [List.getElem?_take_of_lt (by simp; omega), List.getElem?_map, List.getElem?_take_of_lt hj, hx, Option.map_some]
      exact hcs j _ hx
    · rw [List.getElem?_eq_none (by simp; omega), List.getElem?_eq_none (by simp; omega)]
  · obtain ⟨cs, rfl, rfl, hl, hk, ht, hr⟩ := hI
    have sk3 : IntKind.i64.wrap ((i : Int) + 1 + 1) = ((i + 1 : Nat) : Int) + 1 := by rw [wrapS] <;> omega
    unfold S.slices_Compact_int_int.b0
    simp only [lenV]
    (with_reducible refine W.cnd (fun hc => ?_) (fun hc => ?_) <;> (try simp only [q1, q2, q3, q4, q5, q6, q7, q8, q9, q10, q11, q12, q13, q14, q15, q16, q17, q18, q19, q20, q21, q22, q23, q24, q25, q26, q27, q28, q29, q30, Kd.ty] at hc) <;> (try (exfalso; omega)))
    · obtain ⟨a, ha⟩ : ∃ a, xs[k0 + 1 + i]? = some a := ⟨_, List.getElem?_eq_getElem (by omega)⟩
      obtain ⟨b, hb⟩ : ∃ b, xs[k0 + i]? = some b := ⟨_, List.getElem?_eq_getElem (by omega)⟩
      have hpush : compactL (xs.take (k0 + 1 + (i + 1))) = if b = a then compactL (xs.take (k0 + 1 + i)) else compactL (xs.take (k0 + 1 + i)) ++ [a] := by
        rw [← Nat.add_assoc, take_snoc ha, compactL_push]
        have := take_getLast hb
        rw [show k0 + i + 1 = k0 + 1 + i by omega] at this
        rw [this]; simp
      have w : IntKind.i64.wrap ((i : Int) + 1 - 1) = i := by rw [wrapS] <;> omega
      repeat' (with_reducible refine W.bind ?_)
      refine W.rd1 (get_set _ _ _) (by omega) (by omega) (a := a) (by rw [show k0 + ((i : Int) + 1).toNat = k0 + 1 + i by omega]; exact hr _ _ (by omega) ha) ?_
      rw [w]
      refine W.rd1 (get_set _ _ _) (by omega) (by omega) (a := b) (by rw [show k0 + ((i : Int)).toNat = k0 + i by omega]; exact hr _ _ (by omega) hb) ?_
      rw [hpush]
      (with_reducible refine W.cnd (fun hq => ?_) (fun hq => ?_) <;> (try simp only [q1, q2, q3, q4, q5, q6, q7, q8, q9, q10, q11, q12, q13, q14, q15, q16, q17, q18, q19, q20, q21, q22, q23, q24, q25, q26, q27, q28, q29, q30, Kd.ty] at hq) <;> (try (exfalso; omega)))
      · refine W.rd1 (get_set _ _ _) (by omega) (by omega) (a := a) (by rw [show k0 + ((i : Int) + 1).toNat = k0 + 1 + i by omega]; exact hr _ _ (by omega) ha) ?_
        refine W.wr1 (get_set _ _ _) (by omega) (by omega) (by omega) ?_
        rw [set_set, if_neg (fun e => hq e.symm)]
        repeat' (with_reducible (first | refine W.next ?_ | refine W.ret ?_))
        rw [Nat.zero_add, Int.toNat_natCast]
        refine ⟨by omega, _, ?_, rfl, by simp [hl], by simp; omega, ?_, fun j c hj hc => ?_⟩
        · rw [sk3, sk]; simp
        · rw [List.length_append, List.length_singleton, List.map_append, List.take_add_one, List.take_set_of_le (by omega), ht, List.getElem?_set_self (by omega)]; rfl
        · rw [List.getElem?_set_ne (by omega)]; exact hr j c (by omega) hc
      · subst hq
        repeat' (with_reducible (first | refine W.next ?_ | refine W.ret ?_))
        rw [if_pos rfl]
        exact ⟨by omega, cs, by rw [sk3], rfl, hl, by omega, ht, fun j c hj hc => hr j c (by omega) hc⟩
    · repeat' (with_reducible refine W.stop ?_)
      have : xs.take (k0 + 1 + i) = xs := List.take_of_length_le (by omega)
      rw [this] at ht
      rw [this]
      exact ⟨rfl, cs, rfl, hl, ht⟩

/-- Neighbours have other variables. -/
def adj : List Int → Bool
  | x :: y :: t => decide (x.natAbs ≠ y.natAbs) && adj (y :: t)
  | _ => true
def saysN (c : List Int) : Bool := adj (normL c)

/-- A list of plain cells, from a place on. -/
def Fresh (n0 : Nat) (τ : Heap) (xs : List Int) (y : AVal) : Prop := SlV .int τ xs y ∧ ∀ l off len c, y = .sl l off len c → n0 ≤ l

theorem compact_w {n0 : Nat} {τ : Heap} {xs : List Int} {y : AVal} (hA : Acc .int n0 τ xs y) (hl : xs.length ≤ 1000000000) :
    W (S.slices_Compact_int_int y τ) fun r => Fresh n0 r.2 (compactL xs) r.1 ∧ ∀ σ0 : Heap, σ0.next ≤ n0 → Hle σ0 τ → Hle σ0 r.2 := by
  unfold S.slices_Compact_int_int
  rw [hA.len]
  (with_reducible refine W.cnd (fun hc => ?_) (fun hc => ?_) <;> (try simp only [q1, q2, q3, q4, q5, q6, q7, q8, q9, q10, q11, q12, q13, q14, q15, q16, q17, q18, q19, q20, q21, q22, q23, q24, q25, q26, q27, q28, q29, q30, Kd.ty] at hc) <;> (try (exfalso; omega)))
  · repeat' (with_reducible refine W.ret ?_)
    have : compactL xs = xs := by
      match xs, hc with
      | [], _ => rfl
      | [x], _ => rfl
      | x :: y :: t, h => simp at h; omega
    rw [this]
    exact ⟨⟨hA.sl, hA.from (Nat.le_refl _)⟩, fun σ0 _ L => L⟩
  · rcases hA with ⟨rfl, rfl⟩ | ⟨l, cs, rfl, h2, h3, h4, h5, h6⟩
    · simp at hc
    · have h4' : τ.get l = some (.cells .rw 1 cs) := h4
      have h5' : xs.length ≤ cs.length := by simpa [Vw.int] using h5
      have hcs : ∀ (j : Nat) (a : Int), xs[j]? = some a → cs[j]? = some (AVal.int .i64 a) := fun j a ha => by
        have := h6 j a ha
        have this : (cs.drop (j * 1)).take 1 = [AVal.int .i64 a] := this
        have h7 : ((cs.drop (j * 1)).take 1)[0]? = some (AVal.int .i64 a) := by rw [this]; rfl
        rw [List.getElem?_take_of_lt (by omega), List.getElem?_drop] at h7
        simpa using h7
      have hlt : ∀ j, j < xs.length → ∃ a, xs[j]? = some a := fun j hj => ⟨_, List.getElem?_eq_getElem hj⟩
      repeat' (with_reducible refine W.bind ?_)
      refine W.loop (xs.length - 1) (fun i y τ' => y = (i : Int) + 1 ∧ τ = τ' ∧ compactL (xs.take (i + 1)) = xs.take (i + 1)) ⟨rfl, rfl, by
        match xs, hc with
        | x :: t, _ => rfl⟩ fun i y τ' hi hI => ?_
      obtain ⟨rfl, rfl, hR⟩ := hI
      have w : IntKind.i64.wrap ((i : Int) + 1 - 1) = i := by rw [wrapS] <;> omega
      have sk3 : IntKind.i64.wrap ((i : Int) + 1 + 1) = ((i + 1 : Nat) : Int) + 1 := by rw [wrapS] <;> omega
      unfold S.slices_Compact_int_int.b1
      simp only [lenV]
      (with_reducible refine W.cnd (fun hq => ?_) (fun hq => ?_) <;> (try simp only [q1, q2, q3, q4, q5, q6, q7, q8, q9, q10, q11, q12, q13, q14, q15, q16, q17, q18, q19, q20, q21, q22, q23, q24, q25, q26, q27, q28, q29, q30, Kd.ty] at hq) <;> (try (exfalso; omega)))
      · obtain ⟨a, ha⟩ := hlt (i + 1) (by omega)
        obtain ⟨b, hb⟩ := hlt i (by omega)
        refine W.rd1 h4' (by omega) (by omega) (a := a) (by rw [show 0 + ((i : Int) + 1).toNat = i + 1 by omega]; exact hcs _ _ ha) ?_
        rw [w]
        refine W.rd1 h4' (by omega) (by omega) (a := b) (by rw [show 0 + (i : Int).toNat = i by omega]; exact hcs _ _ hb) ?_
        (with_reducible refine W.cnd (fun he => ?_) (fun he => ?_) <;> (try simp only [q1, q2, q3, q4, q5, q6, q7, q8, q9, q10, q11, q12, q13, q14, q15, q16, q17, q18, q19, q20, q21, q22, q23, q24, q25, q26, q27, q28, q29, q30, Kd.ty] at he) <;> (try (exfalso; omega)))
        · subst he
          have hsl : ∀ {R : Type} (K : AVal → Option R), slS τ 1 (.sl l 0 xs.length none) ((i : Int) + 1) none none K = K (.sl l (i + 1) (xs.length - (i + 1)) none) := fun K => by
            simp only [slS, h4']
            rw [if_pos ⟨trivial, by omega, by simp; omega, by simp, by simp, by simp⟩]
            have : ((i : Int) + 1).toNat = i + 1 := by omega
            simp [this, clipTo]
          refine W.to (hsl _) ?_
          repeat' (with_reducible refine W.bind ?_)
          have hin := compact_in (τ := τ) (l := l) (k0 := i + 1) rfl h5' (by omega) (by omega) hl (by rw [ha]; simpa using hb.symm) hR hcs h4'
          refine W.mono hin fun r hr => ?_
          obtain ⟨k, τ2⟩ := r
          obtain ⟨e, cs2, e2, hl2, ht⟩ := hr
          dsimp only at e e2 ⊢
          subst e e2
          have hlen := compactL_len xs
          have hsl2 : ∀ {R : Type} (K : AVal → Option R), slS (τ.set l (.cells .rw 1 cs2)) 1 (.sl l 0 xs.length none) ((compactL xs).length : Int) none none K = K (.sl l (compactL xs).length (xs.length - (compactL xs).length) none) := fun K => by
            simp only [slS, get_set]
            rw [if_pos ⟨trivial, by omega, by simp; omega, by simp, by simp, by simp⟩]
            simp [clipTo]
          refine W.to (hsl2 _) ?_
          have hclr : ∃ cs3 : List AVal, cs3.length = cs2.length ∧ cs3.take (compactL xs).length = cs2.take (compactL xs).length ∧ ∀ {R : Type} (K : Heap → Option R), clearK (τ.set l (.cells .rw 1 cs2)) 1 [AVal.int .i64 0] (.sl l (compactL xs).length (xs.length - (compactL xs).length) none) K = K (τ.set l (.cells .rw 1 cs3)) := by
            have hrl : ∀ n : Nat, (rep n [AVal.int .i64 0]).length = n := fun n => by
              induction n with
              | zero => rfl
              | succ n ih => simp [rep, ih]
            by_cases h0 : xs.length - (compactL xs).length = 0
            · exact ⟨cs2, rfl, rfl, fun K => by simp only [clearK, if_pos h0]⟩
            · refine ⟨cs2.take (compactL xs).length ++ rep (xs.length - (compactL xs).length) [AVal.int .i64 0] ++ cs2.drop ((compactL xs).length + (xs.length - (compactL xs).length)), ?_, ?_, fun K => ?_⟩
              · simp [hrl]; omega
              · rw [List.append_assoc, List.take_append_of_le_length (by simp; omega), List.take_take, Nat.min_self]
              · simp only [clearK, if_neg h0, get_set, if_true, Nat.mul_one, stC, hrl]
                rw [if_pos (by omega), set_set]
          obtain ⟨cs3, hl3, ht3, e3⟩ := hclr
          refine W.to (e3 _) ?_
          have hsl4 : ∀ {R : Type} (K : AVal → Option R), slS (τ.set l (.cells .rw 1 cs3)) 1 (.sl l 0 xs.length none) 0 (some ((compactL xs).length : Int)) none K = K (.sl l 0 (compactL xs).length none) := fun K => by
            simp only [slS, get_set]
            rw [if_pos ⟨trivial, by omega, by simp, by simp; omega, by simp, by simp⟩]
            simp [clipTo]
          refine W.to (hsl4 _) ?_
          repeat' (with_reducible (first | refine W.stop ?_ | refine W.ret ?_))
          refine ⟨⟨.inr ⟨l, 0, none, .rw, cs3, rfl, h3, get_set _ _ _, by simp [Vw.int]; omega, fun i a hi => ?_⟩, fun l' off len c e => by cases e; exact h2⟩, fun σ0 hn L => L.set (by omega) _⟩
          show _ = _
          have hi' := (List.getElem?_eq_some_iff.1 hi).1
          rw [ht] at ht3
          have h7 : (cs3.take (compactL xs).length)[i]? = some (AVal.int .i64 a) := by rw [ht3, List.getElem?_map, hi]; rfl
          rw [List.getElem?_take_of_lt hi'] at h7
          simp only [Vw.int, Nat.mul_one, Nat.zero_add]
          obtain ⟨h8, h9⟩ := List.getElem?_eq_some_iff.1 h7
          rw [List.drop_eq_getElem_cons h8, h9]; rfl
        · repeat' (with_reducible refine W.next ?_)
          refine ⟨by omega, sk3, rfl, ?_⟩
          rw [take_snoc ha, compactL_push, take_getLast hb, if_neg (fun e => he (Option.some.inj e).symm), hR]
      · repeat' (with_reducible (first | refine W.stop ?_ | refine W.ret ?_))
        have : xs.take (i + 1) = xs := List.take_of_length_le (by omega)
        rw [this] at hR
        rw [hR]
        have hA : Acc .int n0 τ xs (.sl l 0 xs.length none) := .inr ⟨l, cs, rfl, h2, h3, h4, h5, h6⟩
        exact ⟨⟨hA.sl, hA.from (Nat.le_refl _)⟩, fun σ0 _ L => L⟩

theorem adj_drop {xs : List Int} {i : Nat} {a b : Int} (ha : xs[i]? = some a) (hb : xs[i + 1]? = some b) : adj (xs.drop i) = (decide (a.natAbs ≠ b.natAbs) && adj (xs.drop (i + 1))) := by
  rw [drop_at ha, drop_at hb]; rfl
theorem norm0_w {σ : Heap} {c : List Int} {x : AVal} (hx : SlV .int σ c x) (hb : c.all inB = true) (hl : c.length ≤ 1000000) : W (S.lits_Norm x σ) fun r => r.1.2 = saysN c ∧ Hle σ r.2 ∧ Fresh σ.next r.2 (normL c) r.1.1 := by
  unfold S.lits_Norm
  refine W.call (clone_w hx hl) fun r hr => ?_
  obtain ⟨y, τ⟩ := r
  obtain ⟨hy, L⟩ := hr
  dsimp only at hy L ⊢
  refine W.call (sortF_w hy hb (by omega)) fun r hr => ?_
  obtain ⟨u, τ2⟩ := r
  obtain ⟨hy2, F2⟩ := hr
  dsimp only at hy2 F2 ⊢
  replace L := F2 σ (Nat.le_refl _) L
  have hsl := sortedO_len c
  refine W.call (compact_w hy2 (by omega)) fun r hr => ?_
  obtain ⟨z, τ3⟩ := r
  obtain ⟨⟨hz, hf⟩, F3⟩ := hr
  dsimp only at hz hf F3 ⊢
  replace L := F3 σ (Nat.le_refl _) L
  have hz : SlV .int τ3 (normL c) z := hz
  have hnl := normL_len c
  have hclip : W (S.slices_Clip_int_int z τ3) fun w => Fresh σ.next τ3 (normL c) w := by
    unfold S.slices_Clip_int_int
    repeat' (with_reducible refine W.len (by assumption) ?_)
    rcases hz with ⟨rfl, e⟩ | ⟨l, off, cc, md, cs, rfl, k2, k3, k4, k5⟩
    · rw [e]
      exact W.to (by simp [slS]) (W.ret ⟨.inl ⟨rfl, rfl⟩, fun l off len c e => by cases e⟩)
    · have hs : ∀ {R : Type} (K : AVal → Option R), slS τ3 1 (.sl l off (normL c).length cc) 0 (some ((normL c).length : Int)) (some ((normL c).length : Int)) K = K (.sl l off (normL c).length (some (normL c).length)) := fun K => by
        have k3 : τ3.get l = some (.cells md 1 cs) := k3
        simp only [slS, k3]
        rw [if_pos ⟨trivial, by omega, by simp, by simp, by simp, by simp⟩]
        simp [clipTo]
      refine W.to (hs _) (W.ret ⟨.inr ⟨l, off, _, md, cs, rfl, k2, k3, k4, k5⟩, fun l' off' len' c' e => ?_⟩)
      cases e; exact hf _ _ _ _ rfl
  refine W.call hclip fun w hw => ?_
  obtain ⟨hw, hwf⟩ := hw
  repeat' (with_reducible refine W.bind ?_)
  unfold saysN
  refine W.loopP ((normL c).length - 1) (fun i y => y = (i : Int) + 1 ∧ adj (normL c) = adj ((normL c).drop i)) ⟨rfl, by simp⟩ fun i y hi hI => ?_
  obtain ⟨rfl, hI⟩ := hI
  have wi : IntKind.i64.wrap ((i : Int) + 1 - 1) = i := by rw [wrapS] <;> omega
  have sk3 : IntKind.i64.wrap ((i : Int) + 1 + 1) = ((i + 1 : Nat) : Int) + 1 := by rw [wrapS] <;> omega
  unfold S.lits_Norm.b0
  repeat' (with_reducible refine W.len (by assumption) ?_)
  have hin : ∀ v ∈ normL c, -1152921504606846976 ≤ v ∧ v ≤ 9223372036854775807 := fun v hv => by
    rw [normL_mem] at hv
    have := List.all_eq_true.1 hb v hv
    simp [inB] at this; omega
  (with_reducible refine W.cnd (fun hc => ?_) (fun hc => ?_) <;> (try simp only [q1, q2, q3, q4, q5, q6, q7, q8, q9, q10, q11, q12, q13, q14, q15, q16, q17, q18, q19, q20, q21, q22, q23, q24, q25, q26, q27, q28, q29, q30, Kd.ty] at hc) <;> (try (exfalso; omega)))
  · obtain ⟨a, ha⟩ : ∃ a, (normL c)[i]? = some a := ⟨_, List.getElem?_eq_getElem (by omega)⟩
    obtain ⟨b, hb'⟩ : ∃ b, (normL c)[i + 1]? = some b := ⟨_, List.getElem?_eq_getElem (by omega)⟩
    rw [adj_drop ha hb'] at hI
    refine W.ixI hw (a := b) (by rw [show ((i : Int) + 1).toNat = i + 1 by omega]; exact hb') (by omega) ?_
    refine W.eqn (var_eq (hin b (List.mem_of_getElem? hb'))) ?_
    rw [wi]
    refine W.ixIc hw ha ?_
    refine W.eqn (var_eq (hin a (List.mem_of_getElem? ha))) ?_
    (with_reducible refine W.cnd (fun he => ?_) (fun he => ?_) <;> (try simp only [q1, q2, q3, q4, q5, q6, q7, q8, q9, q10, q11, q12, q13, q14, q15, q16, q17, q18, q19, q20, q21, q22, q23, q24, q25, q26, q27, q28, q29, q30, Kd.ty] at he) <;> (try (exfalso; omega)))
    · repeat' (with_reducible (first | refine W.stopP ?_ | refine W.ret ?_))
      refine ⟨?_, L, hw, hwf⟩
      rw [hI]
      have : a.natAbs = b.natAbs := by omega
      simp [this]
    · repeat' (with_reducible refine W.nextP ?_)
      refine ⟨by omega, sk3, ?_⟩
      rw [hI]
      have : a.natAbs ≠ b.natAbs := by omega
      simp [this]
  · repeat' (with_reducible (first | refine W.stopP ?_ | refine W.ret ?_))
    refine ⟨?_, L, hw, hwf⟩
    rw [hI]
    match h : (normL c).drop i with
    | [] => rfl
    | [x] => rfl
    | x :: y :: t =>
      have := congrArg List.length h
      simp at this; omega
end Go.Proofs.YtgneblbblihaoaaGreatDoor.A

/- What follows of literals at once; values. -/
namespace Go.Proofs.YtgneblbblihaoaaGreatDoor.A
open Go
/-- What follows at once of literals and clauses. -/
inductive Der (C : List (List Int)) (s : List Int) : Int → Prop where
  | start {l : Int} : l ∈ s → Der C s l
  | unit {c : List Int} {l : Int} : c ∈ C → l ∈ c → (∀ k ∈ c, k ≠ l → Der C s (-k)) → Der C s l
/-- They can't be together, and that is seen at once. -/
def Conf (C : List (List Int)) (s : List Int) : Prop := (∃ l, Der C s l ∧ Der C s (-l)) ∨ ∃ c ∈ C, ∀ k ∈ c, Der C s (-k)

theorem Der.mono {C D : List (List Int)} {s t : List Int} (hC : ∀ c ∈ C, ∃ d ∈ D, ∀ v, v ∈ d ↔ v ∈ c) (hs : ∀ l ∈ s, l ∈ t) {l : Int} (h : Der C s l) : Der D t l := by
  induction h with
  | start h => exact .start (hs _ h)
  | unit hc hl _ ih =>
    obtain ⟨d, hd, e⟩ := hC _ hc
    exact .unit hd ((e _).2 hl) fun k hk hne => ih k ((e _).1 hk) hne
theorem Conf.mono {C D : List (List Int)} {s t : List Int} (hC : ∀ c ∈ C, ∃ d ∈ D, ∀ v, v ∈ d ↔ v ∈ c) (hs : ∀ l ∈ s, l ∈ t) (h : Conf C s) : Conf D t := by
  rcases h with ⟨l, h1, h2⟩ | ⟨c, hc, h⟩
  · exact .inl ⟨l, h1.mono hC hs, h2.mono hC hs⟩
  · obtain ⟨d, hd, e⟩ := hC _ hc
    exact .inr ⟨d, hd, fun k hk => (h k ((e _).1 hk)).mono hC hs⟩

/-! ### Values -/
def val (vs : List Int) (l : Int) : Int := if l = 0 ∨ vs.length ≤ l.natAbs then 0 else if l < 0 ∧ vs.getD l.natAbs 0 ≠ 0 then 3 - vs.getD l.natAbs 0 else vs.getD l.natAbs 0
def Vok (vs : List Int) : Prop := ∀ x ∈ vs, x = 0 ∨ x = 1 ∨ x = 2
def setV (vs : List Int) (l : Int) : List Int := vs.set l.natAbs (if 0 < l then 1 else 2)
theorem getD_ok {vs : List Int} (h : Vok vs) (i : Nat) : vs.getD i 0 = 0 ∨ vs.getD i 0 = 1 ∨ vs.getD i 0 = 2 := by
  rw [List.getD_eq_getElem?_getD]
  cases hx : vs[i]? with
  | none => left; rfl
  | some x => exact h x (List.mem_of_getElem? hx)
theorem val_ok {vs : List Int} (h : Vok vs) (l : Int) : val vs l = 0 ∨ val vs l = 1 ∨ val vs l = 2 := by
  unfold val
  have := getD_ok h l.natAbs
  split
  · left; rfl
  · split <;> omega
theorem val_neg {vs : List Int} (h : Vok vs) (l : Int) : val vs (-l) = if val vs l = 0 then 0 else 3 - val vs l := by
  unfold val
  have := getD_ok h l.natAbs
  rw [Int.natAbs_neg]
  by_cases h0 : l = 0 ∨ vs.length ≤ l.natAbs
  · rw [if_pos (by omega), if_pos h0]; rfl
  · rw [if_neg (by omega), if_neg h0]
    generalize vs.getD l.natAbs 0 = a at *
    repeat' split
    all_goals omega
theorem Vok.set {vs : List Int} (h : Vok vs) (l : Int) : Vok (setV vs l) := fun x hx => by
  unfold setV at hx
  rcases List.mem_or_eq_of_mem_set hx with hx | hx
  · exact h x hx
  · split at hx <;> omega
theorem setV_len (vs : List Int) (l : Int) : (setV vs l).length = vs.length := by simp [setV]
theorem val_set {vs : List Int} {l : Int} (h0 : l ≠ 0) (h1 : l.natAbs < vs.length) (k : Int) : val (setV vs l) k = if k = l then 1 else if k = -l then 2 else val vs k := by
  unfold val
  rw [setV_len]
  have hg : ∀ j : Nat, (setV vs l).getD j 0 = if j = l.natAbs then (if 0 < l then 1 else 2) else vs.getD j 0 := fun j => by
    unfold setV
    rw [List.getD_eq_getElem?_getD, List.getElem?_set]
    by_cases hj : l.natAbs = j
    · subst hj; simp [h1]
    · rw [if_neg hj, if_neg (fun e => hj e.symm), List.getD_eq_getElem?_getD]
  rw [hg]
  by_cases hk : k = l
  · subst hk
    rw [if_pos rfl, if_neg (by omega), if_pos rfl]
    split <;> split <;> omega
  · rw [if_neg hk]
    by_cases hk2 : k = -l
    · subst hk2
      rw [if_pos rfl, if_neg (by omega), Int.natAbs_neg, if_pos rfl]
      split <;> split <;> omega
    · rw [if_neg hk2, if_neg (c := k.natAbs = l.natAbs) (by omega)]

/-! ### The assignment in the heap -/
def Vw.i8 : Vw Int := ⟨1, fun _ a us => us = [.int .i8 a], Nat.one_pos, fun h => by rw [h]; rfl, fun _ h => h⟩
/-- An assignment, at a pointer. -/
def AsgV (σ : Heap) (p : AVal) (vs : List Int) : Prop := ∃ l v, p = .ptr l 0 ∧ Loc σ l [v] ∧ SlV .i8 σ vs v
theorem AsgV.mono {σ τ : Heap} {p : AVal} {vs : List Int} (h : AsgV σ p vs) (L : Hle σ τ) : AsgV τ p vs := by
  obtain ⟨l, v, e, h1, h2⟩ := h
  exact ⟨l, v, e, h1.mono L, h2.mono L⟩

theorem i8w {x : Int} (h : x = 0 ∨ x = 1 ∨ x = 2) : IntKind.i64.wrap x = x := by rw [wrapS] <;> omega
theorem value_eq {σ : Heap} {p : AVal} {vs : List Int} (h : AsgV σ p vs) (hv : Vok vs) (hl : 0 < vs.length) (hb : vs.length ≤ 1000000) {l : Int} (hin : inB l = true) : S.assign_Assign_Value p l σ = some (val vs l) := by
  obtain ⟨r, e, rfl⟩ : W (S.assign_Assign_Value p l σ) fun r => r = val vs l := by
    obtain ⟨la, v, rfl, h1, h2⟩ := h
    simp only [inB, Bool.and_eq_true, decide_eq_true_eq] at hin
    have w : IntKind.i64.wrap ((vs.length : Int) - 1) = (vs.length : Int) - 1 := by rw [wrapS] <;> omega
    unfold S.assign_Assign_Value val
    repeat' (with_reducible (first | refine W.bind ?_ | refine W.asV ?_ | refine W.fldp ?_ | refine W.len (by assumption) ?_ | refine W.ldL (by assumption) (by with_unfolding_all rfl) ?_ | refine W.nck ?_))
    rw [w]
    refine W.to (litsIs_eq (by omega) (by omega)) ?_
    repeat' (with_reducible refine W.ret ?_)
    by_cases hi : isL l ((vs.length : Int) - 1) = true
    · have hi' := isL_iff.1 hi
      refine W.condF (by simp [hi]) ?_
      rw [if_neg (by omega)]
      repeat' (with_reducible (first | refine W.bind ?_ | refine W.asV ?_ | refine W.fldp ?_ | refine W.ldL (by assumption) (by with_unfolding_all rfl) ?_ | refine W.nck ?_))
      refine W.to (var_eq ⟨by omega, by omega⟩) ?_
      repeat' (with_reducible refine W.ret ?_)
      obtain ⟨a, ha⟩ : ∃ a, vs[l.natAbs]? = some a := ⟨_, List.getElem?_eq_getElem (by omega)⟩
      have hg : vs.getD l.natAbs 0 = a := by rw [List.getD_eq_getElem?_getD, ha]; rfl
      have hok := getD_ok hv l.natAbs
      rw [hg] at hok ⊢
      refine W.ixkc h2 ha fun q us hq hr => ?_
      have hr : us = [.int .i8 a] := hr
      subst hr
      repeat' (with_reducible (first | refine W.bind ?_ | refine W.asI ?_ | refine W.ld0 (by assumption) (by with_unfolding_all rfl) ?_))
      rw [i8w hok]
      (with_reducible refine W.cnd (fun hc => ?_) (fun hc => ?_) <;> (try simp only [q1, q2, q3, q4, q5, q6, q7, q8, q9, q10, q11, q12, q13, q14, q15, q16, q17, q18, q19, q20, q21, q22, q23, q24, q25, q26, q27, q28, q29, q30, Kd.ty] at hc) <;> (try (exfalso; omega)))
      · repeat' (with_reducible (first | refine W.ret ?_ | refine W.bind ?_))
        by_cases h0 : a = 0
        · subst h0
          refine W.condF (by rfl) ?_
          repeat' (with_reducible refine W.ret ?_)
          simp
        · refine W.condT (by simpa using h0) ?_
          repeat' (with_reducible refine W.ret ?_)
          rw [if_pos ⟨by omega, h0⟩, wrapS] <;> omega
      · repeat' (with_reducible (first | refine W.ret ?_ | refine W.bind ?_))
        refine W.condF rfl ?_
        repeat' (with_reducible refine W.ret ?_)
        rw [if_neg (by omega)]
    · refine W.condT (by simpa using hi) ?_
      repeat' (with_reducible refine W.ret ?_)
      have : ¬ (l ≠ 0 ∧ -((vs.length : Int) - 1) ≤ l ∧ l ≤ (vs.length : Int) - 1) := fun e => hi (isL_iff.2 e)
      rw [if_pos (by omega)]
  exact e
end Go.Proofs.YtgneblbblihaoaaGreatDoor.A

/- Values: set, new, what a clause is worth. -/
namespace Go.Proofs.YtgneblbblihaoaaGreatDoor.A
open Go
abbrev i8s (vs : List Int) : List AVal := vs.map (AVal.int .i8)
/-- An assignment of one's own. -/
structure AsgR (σ : Heap) (la lv : Nat) (vs : List Int) : Prop where
  loc : Loc σ la [.sl lv 0 vs.length none]
  get : σ.get lv = some (.cells .rw 1 (i8s vs))
  lt : lv < σ.next
  ne : la ≠ lv
theorem AsgR.v {σ : Heap} {la lv : Nat} {vs : List Int} (h : AsgR σ la lv vs) : AsgV σ (.ptr la 0) vs :=
  ⟨la, _, rfl, h.loc, .inr ⟨lv, 0, none, .rw, _, rfl, h.lt, h.get, by simp [Vw.i8], fun i a hi => by
    show _ = _
    obtain ⟨h8, h9⟩ := List.getElem?_eq_some_iff.1 hi
    simp only [Vw.i8, Nat.mul_one, Nat.zero_add]
    rw [List.drop_eq_getElem_cons (by simpa using h8)]
    simp [h9]⟩⟩
theorem AsgR.mono {σ τ : Heap} {la lv : Nat} {vs : List Int} (h : AsgR σ la lv vs) (L : Hle σ τ) : AsgR τ la lv vs := ⟨h.loc.mono L, L.get _ _ h.lt h.get, Nat.lt_of_lt_of_le h.lt L.next, h.ne⟩
theorem AsgR.kill {σ : Heap} {la lv k : Nat} {vs : List Int} (h : AsgR σ la lv vs) (h1 : la ≠ k) (h2 : lv ≠ k) : AsgR (σ.kill k) la lv vs := ⟨h.loc.kill h1, by rw [hkill_get, if_neg h2]; exact h.get, h.lt, h.ne⟩

theorem asgSet_w {σ : Heap} {la lv : Nat} {vs : List Int} (h : AsgR σ la lv vs) (hv : Vok vs) (hl : 0 < vs.length) (hb : vs.length ≤ 1000000) {l : Int} (hin : inB l = true) :
    W (S.assign_Assign_Set (.ptr la 0) l σ) fun r => (l ≠ 0 ∧ l.natAbs < vs.length ∧ val vs l ≠ 2) ∧ r.1 = true ∧ Hle (σ.kill lv) r.2 ∧ r.2.next = σ.next ∧ AsgR r.2 la lv (setV vs l) ∨ ¬ (l ≠ 0 ∧ l.natAbs < vs.length ∧ val vs l ≠ 2) ∧ r = (false, σ) := by
  have hA := h.v
  have hloc := h.loc
  have hin' := hin
  simp only [inB, Bool.and_eq_true, decide_eq_true_eq] at hin'
  have w : IntKind.i64.wrap ((vs.length : Int) - 1) = (vs.length : Int) - 1 := by rw [wrapS] <;> omega
  have hlen : ∀ {R : Type} (K : Int → Option R), lenV (.sl lv 0 vs.length none) K = K (vs.length : Int) := fun K => rfl
  unfold S.assign_Assign_Set
  repeat' (with_reducible (first | refine W.bind ?_ | refine W.asV ?_ | refine W.fldp ?_ | refine W.ldL (by assumption) (by with_unfolding_all rfl) ?_ | refine W.nck ?_))
  refine W.to (hlen _) ?_
  rw [w]
  refine W.eqn (litsIs_eq (by omega) (by omega)) ?_
  by_cases hi : isL l ((vs.length : Int) - 1) = true
  · have hi' := isL_iff.1 hi
    refine W.condF (by simp [hi]) ?_
    repeat' (with_reducible refine W.bind ?_)
    refine W.to (value_eq hA hv hl hb hin) ?_
    repeat' (with_reducible refine W.ret ?_)
    by_cases h2 : val vs l = 2
    · refine W.condT (by simpa using h2) ?_
      repeat' (with_reducible refine W.ret ?_)
      exact .inr ⟨fun e => e.2.2 h2, rfl⟩
    · refine W.condF (by simpa using h2) ?_
      have fin : ∀ x : Int, x = (if 0 < l then 1 else 2) → ∃ τ, τ = σ.set lv (.cells .rw 1 ((i8s vs).set (0 + (l.natAbs : Int).toNat) (AVal.int .i8 x))) ∧ Hle (σ.kill lv) τ ∧ τ.next = σ.next ∧ AsgR τ la lv (setV vs l) := fun x hx => by
        refine ⟨_, rfl, Hle.kill_set .., rfl, ⟨?_, ?_, h.lt, h.ne⟩⟩
        · rw [setV_len]
          exact (h.loc.kill h.ne).mono (Hle.kill_set ..)
        · rw [get_set]
          congr 2
          unfold setV
          rw [← hx, i8s, i8s, List.map_set, Nat.zero_add, Int.toNat_natCast]
      repeat' (with_reducible refine W.bind ?_)
      (with_reducible refine W.cnd (fun hc => ?_) (fun hc => ?_) <;> (try simp only [q1, q2, q3, q4, q5, q6, q7, q8, q9, q10, q11, q12, q13, q14, q15, q16, q17, q18, q19, q20, q21, q22, q23, q24, q25, q26, q27, q28, q29, q30, Kd.ty] at hc) <;> (try (exfalso; omega)))
      · repeat' (with_reducible (first | refine W.asV ?_ | refine W.fldp ?_ | refine W.ldL (by assumption) (by with_unfolding_all rfl) ?_ | refine W.nck ?_))
        obtain ⟨τ, e1, e2, e3, e4⟩ := fin 1 (by rw [if_pos hc])
        have ea : l = (l.natAbs : Int) := by omega
        rw [show ∀ K : AVal → Option (Unit × Heap), ixA σ (.sl lv 0 vs.length none) 1 l K = ixA σ (.sl lv 0 vs.length none) 1 (l.natAbs : Int) K from fun K => by rw [← ea]]
        refine W.wr1 h.get (by omega) (by omega) (by simp; omega) ?_
        rw [← e1]
        repeat' (with_reducible refine W.ret ?_)
        exact .inl ⟨⟨by omega, by omega, h2⟩, rfl, e2, e3, e4⟩
      · repeat' (with_reducible (first | refine W.asV ?_ | refine W.fldp ?_ | refine W.ldL (by assumption) (by with_unfolding_all rfl) ?_ | refine W.nck ?_))
        obtain ⟨τ, e1, e2, e3, e4⟩ := fin 2 (by rw [if_neg (by omega)])
        have w2 : IntKind.i64.wrap (0 - l) = (l.natAbs : Int) := by rw [wrapS] <;> omega
        rw [w2]
        refine W.wr1 h.get (by omega) (by omega) (by simp; omega) ?_
        rw [← e1]
        repeat' (with_reducible refine W.ret ?_)
        exact .inl ⟨⟨by omega, by omega, h2⟩, rfl, e2, e3, e4⟩
  · refine W.condT (by simpa using hi) ?_
    repeat' (with_reducible refine W.ret ?_)
    refine W.condT rfl ?_
    repeat' (with_reducible refine W.ret ?_)
    have : ¬ (l ≠ 0 ∧ -((vs.length : Int) - 1) ≤ l ∧ l ≤ (vs.length : Int) - 1) := fun e => hi (isL_iff.2 e)
    exact .inr ⟨by omega, rfl⟩

theorem cut_eq {σ : Heap} {v : Int} (h0 : 0 ≤ v) (h1 : v ≤ 4000) : S.assign_Cut v σ = some v := by
  unfold S.assign_Cut
  rw [if_neg (c := 0 > v) (by omega), if_neg (by omega)]
theorem rep_i8 (n : Nat) : rep n [AVal.int .i8 0] = i8s (List.replicate n 0) := by
  induction n with
  | zero => rfl
  | succ n ih => rw [rep, ih, List.replicate_succ]; rfl
theorem asgNew_w {σ : Heap} {n : Nat} (hn : n ≤ 4000) : W (S.assign_New (n : Int) σ) fun r => r.1 = .ptr (σ.next + 1) 0 ∧ r.2.next = σ.next + 2 ∧ Hle σ r.2 ∧ AsgR r.2 (σ.next + 1) σ.next (List.replicate (n + 1) 0) := by
  unfold S.assign_New
  refine W.eqn (cut_eq (by omega) (by omega)) ?_
  rw [sk]
  have hmk : ∀ {R : Type} (K : AVal → Heap → Option R), mkS σ 1 1 [AVal.int .i8 0] ((n + 1 : Nat) : Int) ((n + 1 : Nat) : Int) K = K (.sl σ.next 0 (n + 1) none) (σ.new (.cells .rw 1 (i8s (List.replicate (n + 1) 0)))) := fun K => by
    simp only [mkS, newK]
    rw [if_pos ⟨by omega, by omega, by omega, by omega⟩, Int.toNat_natCast, rep_i8]
  refine W.to (hmk _) ?_
  have L1 := (Hle.refl σ).new (.cells .rw 1 (i8s (List.replicate (n + 1) 0)))
  have g1 : (σ.new (.cells .rw 1 (i8s (List.replicate (n + 1) 0)))).get σ.next = some (.cells .rw 1 (i8s (List.replicate (n + 1) 0))) := by rw [hnew_get, if_pos rfl]
  have n1 : (σ.new (.cells .rw 1 (i8s (List.replicate (n + 1) 0)))).next = σ.next + 1 := rfl
  generalize σ.new (.cells .rw 1 (i8s (List.replicate (n + 1) 0))) = τ at *
  repeat' (with_reducible refine W.scSl ?_)
  refine W.new fun l τ2 hl L2 h2 hnτ2 => ?_
  repeat' (with_reducible refine W.ret ?_)
  have hl' : l = σ.next + 1 := by omega
  clear hl
  subst hl'
  dsimp only
  exact ⟨rfl, by omega, L1.mono L2, ⟨by rw [List.length_replicate]; exact h2, L2.get _ _ (by omega) g1, by omega, by omega⟩⟩
theorem val_zero (n : Nat) (l : Int) : val (List.replicate n 0) l = 0 := by
  unfold val
  have : ∀ i : Nat, (List.replicate n (0 : Int)).getD i 0 = 0 := fun i => by
    rw [List.getD_eq_getElem?_getD, List.getElem?_replicate]; split <;> rfl
  rw [this]; simp
theorem Vok_zero (n : Nat) : Vok (List.replicate n 0) := fun x hx => .inl (List.eq_of_mem_replicate hx)

/-- What a clause is worth, and the one literal that is left. -/
structure ClW (vs c : List Int) (r : Int × Int) : Prop where
  bad : r.1 = 2 ↔ ∀ k ∈ c, val vs k = 2
  one : r.1 ≠ 2 → r.2 ≠ 0 → r.2 ∈ c ∧ val vs r.2 = 0 ∧ ∀ k ∈ c, k ≠ r.2 → val vs k = 2
  many : r.1 ≠ 2 → r.2 = 0 → (∃ k ∈ c, val vs k = 1) ∨ ∃ j ∈ c, ∃ k ∈ c, j ≠ k ∧ val vs j ≠ 2 ∧ val vs k ≠ 2

theorem clause_w {σ : Heap} {p x : AVal} {vs c : List Int} (h : AsgV σ p vs) (hv : Vok vs) (hl : 0 < vs.length) (hb : vs.length ≤ 1000000) (hx : SlV .int σ c x) (hin : ∀ l ∈ c, inB l = true ∧ l ≠ 0) (hcb : c.length ≤ 1000000) :
    W (S.assign_Assign_Clause p x σ) fun r => ClW vs c r := by
  unfold S.assign_Assign_Clause
  repeat' (with_reducible (first | refine W.bind ?_ | refine W.len (by assumption) ?_))
  refine W.loopP c.length (fun i (y : Int × Int × Int × Int) => y.2.2.2 = (i : Int) ∧ 0 ≤ y.2.1 ∧ y.2.1 ≤ i ∧ (y.2.2.1 = 0 ∨ y.2.2.1 = 1 ∨ y.2.2.1 = 2) ∧ (y.2.2.1 = 2 ↔ ∀ k ∈ c.take i, val vs k = 2) ∧ (y.2.2.1 = 1 ↔ ∃ k ∈ c.take i, val vs k = 1) ∧
    (y.2.1 = 0 ↔ ∀ k ∈ c.take i, val vs k = 2) ∧ (y.2.1 = 1 → y.1 ∈ c.take i ∧ val vs y.1 ≠ 2 ∧ ∀ k ∈ c.take i, val vs k ≠ 2 → k = y.1) ∧ (2 ≤ y.2.1 → ∃ j ∈ c.take i, ∃ k ∈ c.take i, j ≠ k ∧ val vs j ≠ 2 ∧ val vs k ≠ 2))
    ⟨rfl, by simp, by simp, by simp, by simp, by simp, by simp, by simp, by simp⟩ fun i y hi hI => ?_
  obtain ⟨left, many, worth, j⟩ := y
  obtain ⟨rfl, hm0, hmi, hw, i1, i2, i3, i4, i5⟩ := hI
  dsimp only at hm0 hmi hw i1 i2 i3 i4 i5
  unfold S.assign_Assign_Clause.b0
  dsimp only
  (with_reducible refine W.cnd (fun hc => ?_) (fun hc => ?_) <;> (try simp only [q1, q2, q3, q4, q5, q6, q7, q8, q9, q10, q11, q12, q13, q14, q15, q16, q17, q18, q19, q20, q21, q22, q23, q24, q25, q26, q27, q28, q29, q30, Kd.ty] at hc) <;> (try (exfalso; omega)))
  · repeat' (with_reducible refine W.bind ?_)
    refine W.ixInc hx (by omega) fun a ha => ?_
    have hma := hin a (List.mem_of_getElem? ha)
    refine W.eqn (value_eq h hv hl hb hma.1) ?_
    have ht : c.take (i + 1) = c.take i ++ [a] := by rw [List.take_add_one, ha]; rfl
    have hall : ∀ P : Int → Prop, (∀ k ∈ c.take (i + 1), P k) ↔ (∀ k ∈ c.take i, P k) ∧ P a := fun P => by
      rw [ht]; simp only [List.mem_append, List.mem_singleton]
      exact ⟨fun h => ⟨fun k hk => h k (.inl hk), h a (.inr rfl)⟩, fun h k hk => hk.elim (h.1 k) fun e => e ▸ h.2⟩
    have hex : ∀ P : Int → Prop, (∃ k ∈ c.take (i + 1), P k) ↔ (∃ k ∈ c.take i, P k) ∨ P a := fun P => by
      rw [ht]; simp only [List.mem_append, List.mem_singleton]
      constructor
      · rintro ⟨k, hk | rfl, h⟩
        · exact .inl ⟨k, hk, h⟩
        · exact .inr h
      · rintro (⟨k, hk, h⟩ | h)
        · exact ⟨k, .inl hk, h⟩
        · exact ⟨a, .inr rfl, h⟩
    have hmem : ∀ {k}, k ∈ c.take i → k ∈ c.take (i + 1) := fun hk => by rw [ht]; exact List.mem_append.2 (.inl hk)
    have hmea : a ∈ c.take (i + 1) := by rw [ht]; simp
    have hne2 : val vs a ≠ 2 → ∀ P : Prop, (if (many = 0) then True else left ≠ a) ∨ (many ≠ 0 ∧ left = a) := fun _ _ => by
      by_cases h0 : many = 0
      · simp [h0]
      · by_cases h1 : left = a
        · exact .inr ⟨h0, h1⟩
        · exact .inl (by rw [if_neg h0]; exact h1)
    have wm : IntKind.i64.wrap (many + 1) = many + 1 := by rw [wrapS] <;> omega
    -- what is counted, where the literal is not false
    have cnt : val vs a ≠ 2 → ∀ w' : Int, (w' = 0 ∨ w' = 1) → (w' = 1 ↔ (∃ k ∈ c.take i, val vs k = 1) ∨ val vs a = 1) →
        W ((cond (many == 0) (some true) (some (a != left))).bind fun r11 => cond r11 (some (a, IntKind.i64.wrap (many + 1), w')) (some (left, many, w'))) fun r => r.2.2 = w' ∧ 0 ≤ r.2.1 ∧ r.2.1 ≤ i + 1 ∧ (r.2.1 = 0 ↔ ∀ k ∈ c.take (i + 1), val vs k = 2) ∧
          (r.2.1 = 1 → r.1 ∈ c.take (i + 1) ∧ val vs r.1 ≠ 2 ∧ ∀ k ∈ c.take (i + 1), val vs k ≠ 2 → k = r.1) ∧ (2 ≤ r.2.1 → ∃ j ∈ c.take (i + 1), ∃ k ∈ c.take (i + 1), j ≠ k ∧ val vs j ≠ 2 ∧ val vs k ≠ 2) := by
      intro ha2 w' hw' hw1
      have hn0 : ¬ ∀ k ∈ c.take (i + 1), val vs k = 2 := fun e => ha2 ((hall _).1 e).2
      by_cases h0 : many = 0
      · subst h0
        repeat' (with_reducible refine W.bind ?_)
        refine W.condT rfl ?_
        repeat' (with_reducible refine W.ret ?_)
        refine W.condT rfl ?_
        repeat' (with_reducible refine W.ret ?_)
        rw [wm]
        dsimp only
        refine ⟨rfl, by omega, by omega, ⟨fun e => by omega, fun e => absurd e hn0⟩, fun _ => ⟨hmea, ha2, fun k hk hk2 => ?_⟩, fun e => by omega⟩
        rw [ht] at hk
        rcases List.mem_append.1 hk with hk | hk
        · exact absurd (i3.1 rfl k hk) hk2
        · simpa using hk
      · repeat' (with_reducible refine W.bind ?_)
        refine W.condF (by simpa using h0) ?_
        repeat' (with_reducible refine W.ret ?_)
        by_cases h1 : a = left
        · refine W.condF (by simpa using h1) ?_
          repeat' (with_reducible refine W.ret ?_)
          dsimp only
          refine ⟨rfl, hm0, by omega, ⟨fun e => absurd e h0, fun e => absurd e hn0⟩, fun e => ?_, fun e => ?_⟩
          · obtain ⟨b1, b2, b3⟩ := i4 e
            refine ⟨hmem b1, b2, fun k hk hk2 => ?_⟩
            rw [ht] at hk
            rcases List.mem_append.1 hk with hk | hk
            · exact b3 k hk hk2
            · simp at hk; rw [hk, h1]
          · obtain ⟨u, hu, v, hv', b⟩ := i5 e
            exact ⟨u, hmem hu, v, hmem hv', b⟩
        · refine W.condT (by simpa using h1) ?_
          repeat' (with_reducible refine W.ret ?_)
          rw [wm]
          dsimp only
          refine ⟨rfl, by omega, by omega, ⟨fun e => by omega, fun e => absurd e hn0⟩, fun e => by omega, fun e => ?_⟩
          by_cases hm1 : many = 1
          · obtain ⟨b1, b2, b3⟩ := i4 hm1
            exact ⟨left, hmem b1, a, hmea, fun e => h1 e.symm, b2, ha2⟩
          · obtain ⟨u, hu, v, hv', b⟩ := i5 (by omega)
            exact ⟨u, hmem hu, v, hmem hv', b⟩
    clear hne2
    rcases val_ok hv a with ea | ea | ea
    · refine W.condF (by rw [ea]; rfl) ?_
      repeat' (with_reducible refine W.bind ?_)
      refine W.condF (by rw [ea]; rfl) ?_
      have hww : W (cond (worth == 2) (some 0) (some worth)) fun w' => (w' = 0 ∨ w' = 1) ∧ (w' = 1 ↔ worth = 1) := by
        clear cnt i1 i2 i3 i4 i5 hall hex
        (with_reducible refine W.cnd (fun hq => ?_) (fun hq => ?_) <;> (try simp only [q1, q2, q3, q4, q5, q6, q7, q8, q9, q10, q11, q12, q13, q14, q15, q16, q17, q18, q19, q20, q21, q22, q23, q24, q25, q26, q27, q28, q29, q30, Kd.ty] at hq) <;> (try (exfalso; omega)))
        · repeat' (with_reducible refine W.ret ?_)
          subst hq; simp
        · repeat' (with_reducible refine W.ret ?_)
          exact ⟨hw.elim .inl fun e => e.elim .inr fun e => absurd e hq, Iff.rfl⟩
      refine W.mono hww fun w' hw' => ?_
      refine W.mono (cnt (by rw [ea]; decide) w' hw'.1 (by rw [hw'.2, i2]; exact ⟨.inl, fun e => e.resolve_right (by rw [ea]; decide)⟩)) fun r hr => ?_
      obtain ⟨r1, r2, r3⟩ := r
      obtain ⟨e1, e2, e3, e4, e5, e6⟩ := hr
      dsimp only at e1 e2 e3 e4 e5 e6 ⊢
      subst e1
      repeat' (with_reducible refine W.nextP ?_)
      dsimp only
      refine ⟨by omega, sk, e2, e3, by rcases hw'.1 with e | e <;> simp [e], ?_, ?_, e4, e5, e6⟩
      · rw [hall]
        exact ⟨fun e => (by rcases hw'.1 with e' | e' <;> rw [e'] at e <;> cases e), fun e => (by rw [ea] at e; exact absurd e.2 (by decide))⟩
      · rw [hex, hw'.2, i2]; exact ⟨.inl, fun e => e.resolve_right (by rw [ea]; decide)⟩
    · refine W.condF (by rw [ea]; rfl) ?_
      repeat' (with_reducible refine W.bind ?_)
      refine W.condT (by rw [ea]; rfl) ?_
      repeat' (with_reducible (first | refine W.ret ?_ | refine W.bind ?_))
      refine W.mono (W.ub (cnt (by rw [ea]; decide) 1 (.inr rfl) ⟨fun _ => .inr ea, fun _ => rfl⟩)) fun r hr => ?_
      skip
      refine W.mono hr fun r hr => ?_
      obtain ⟨r1, r2, r3⟩ := r
      obtain ⟨e1, e2, e3, e4, e5, e6⟩ := hr
      dsimp only at e1 e2 e3 e4 e5 e6 ⊢
      subst e1
      repeat' (with_reducible refine W.nextP ?_)
      dsimp only
      refine ⟨by omega, sk, e2, e3, by simp, ?_, ?_, e4, e5, e6⟩
      · rw [hall]
        exact ⟨fun e => (by cases e), fun e => (by rw [ea] at e; exact absurd e.2 (by decide))⟩
      · rw [hex]; exact ⟨fun _ => .inr ea, fun _ => rfl⟩
    · refine W.condT (by rw [ea]; rfl) ?_
      repeat' (with_reducible (first | refine W.nextP ?_ | refine W.ret ?_))
      dsimp only
      refine ⟨by omega, sk, hm0, by omega, hw, ?_, ?_, ?_, fun e => ?_, fun e => ?_⟩
      · rw [hall]; exact ⟨fun e => ⟨i1.1 e, ea⟩, fun e => i1.2 e.1⟩
      · rw [hex]; exact ⟨fun e => .inl (i2.1 e), fun e => i2.2 (e.resolve_right (by omega))⟩
      · rw [hall]; exact ⟨fun e => ⟨i3.1 e, ea⟩, fun e => i3.2 e.1⟩
      · obtain ⟨b1, b2, b3⟩ := i4 e
        refine ⟨hmem b1, b2, fun k hk hk2 => ?_⟩
        rw [ht] at hk
        rcases List.mem_append.1 hk with hk | hk
        · exact b3 k hk hk2
        · simp at hk; subst hk; exact absurd ea hk2
      · obtain ⟨u, hu, v, hv', b⟩ := i5 e
        exact ⟨u, hmem hu, v, hmem hv', b⟩
  · repeat' (with_reducible (first | refine W.stopP ?_ | refine W.bind ?_))
    rw [List.take_of_length_le (by omega)] at i1 i2 i3 i4 i5
    have hz : ∀ k ∈ c, k ≠ 0 := fun k hk => (hin k hk).2
    by_cases hq : many = 1 ∧ worth = 0
    · obtain ⟨b1, b2, b3⟩ := i4 hq.1
      refine W.condF (by simp [hq.1]) ?_
      repeat' (with_reducible (first | refine W.ret ?_ | refine W.bind ?_))
      refine W.condF (by simp [hq.2]) ?_
      repeat' (with_reducible refine W.ret ?_)
      dsimp only
      refine ⟨i1, fun _ _ => ⟨b1, ?_, fun k hk hne => Classical.byContradiction fun h2 => hne (b3 k hk h2)⟩, fun _ e => absurd e (hz _ b1)⟩
      rcases val_ok hv left with e | e | e
      · exact e
      · have : worth = 1 := i2.2 ⟨left, b1, e⟩
        omega
      · exact absurd e b2
    · have hor : W ((cond (many != 1) (some true) (some (worth != 0)))) fun r => r = true := by
        by_cases hm1 : many = 1
        · refine W.condF (by simp [hm1]) ?_
          repeat' (with_reducible refine W.ret ?_)
          simpa using fun e => hq ⟨hm1, e⟩
        · refine W.condT (by simpa using hm1) ?_
          repeat' (with_reducible refine W.ret ?_)
          rfl
      refine W.mono hor fun r hr => ?_
      subst hr
      repeat' (with_reducible refine W.bind ?_)
      refine W.condT rfl ?_
      repeat' (with_reducible refine W.ret ?_)
      dsimp only
      refine ⟨i1, fun _ e => absurd rfl e, fun hn2 _ => ?_⟩
      rcases hw with e | e | e
      · have hm0' : many ≠ 0 := fun e => hn2 (i1.2 (i3.1 e))
        have : many ≠ 1 := fun e' => hq ⟨e', e⟩
        exact .inr (i5 (by omega))
      · exact .inl (i2.1 e)
      · exact absurd e hn2
end Go.Proofs.YtgneblbblihaoaaGreatDoor.A

/- Ghost tags: which part an object belongs to; lists of one's own. -/
namespace Go.Proofs.YtgneblbblihaoaaGreatDoor.A
open Go
theorem W.loopI {X Y : Type} {f : X → Heap → Option ((X ⊕ Y) × Heap)} {Q : Y × Heap → Prop} (Inv : Nat → X → Heap → Prop) {m : Nat} {x : X} {σ : Heap} (h0 : Inv m x σ)
    (step : ∀ m x σ, Inv m x σ → W (f x σ) (LQ (fun x' σ' => ∃ m', m' < m ∧ Inv m' x' σ') Q)) : W (loopW f x σ) Q := by
  induction m using Nat.strongRecOn generalizing x σ with
  | ind m ih =>
    obtain ⟨⟨r, τ⟩, e, hr⟩ := step m x σ h0
    cases r with
    | inl x' =>
      obtain ⟨m', hm, h'⟩ := hr
      obtain ⟨z, h3, h4⟩ := ih m' hm h'
      exact ⟨z, loopW_next e h3, h4⟩
    | inr y => exact ⟨_, loopW_stop e, hr⟩

/-- Which part each object belongs to. -/
abbrev Tg := Nat → Nat
abbrev Tz : Tg := fun _ => 0
def Tg.upd (T : Tg) (l t : Nat) : Tg := fun k => if k = l then t else T k
/-- What one part has. -/
def Heap.at (σ : Heap) (T : Tg) (i : Nat) : Heap := ⟨σ.next, fun k => if T k = i then σ.get k else none⟩
/-- What is not there yet has no part. -/
structure Tn (σ : Heap) (T : Tg) : Prop where
  z : ∀ k, σ.next ≤ k → T k = 0
section
variable {σ τ υ : Heap} {T T' T2 : Tg} {i j k l t : Nat} {o : AObj} {I J : Nat → Bool} {cs : List AVal}
theorem at_get : (σ.at T i).get k = some o ↔ T k = i ∧ σ.get k = some o := by
  simp only [Heap.at]; split <;> simp [*]
theorem at_of (h1 : T k = i) (h2 : σ.get k = some o) : (σ.at T i).get k = some o := at_get.2 ⟨h1, h2⟩
theorem at_le : Hle (σ.at T i) σ := ⟨Nat.le_refl _, fun k o _ h => (at_get.1 h).2⟩
theorem at_tz : σ.at Tz 0 = σ := by simp [Heap.at]
theorem Hle.ats (L : Hle σ τ) (T : Tg) (i : Nat) : Hle (σ.at T i) (τ.at T i) := ⟨L.next, fun k o hk h => at_of (at_get.1 h).1 (L.get k o hk (at_get.1 h).2)⟩
theorem Tn.mono (h : Tn σ T) (L : Hle σ τ) : Tn τ T := ⟨fun k hk => h.z k (Nat.le_trans L.next hk)⟩
theorem Tn.tz : Tn σ Tz := ⟨fun _ _ => rfl⟩
theorem upd_self : T.upd l t l = t := if_pos rfl
theorem upd_ne (h : k ≠ l) : T.upd l t k = T k := if_neg h

/-- A step that touches some parts alone. -/
structure Hop (I : Nat → Bool) (σ : Heap) (T : Tg) (τ : Heap) (T' : Tg) : Prop where
  next : σ.next ≤ τ.next
  tn : Tn τ T'
  tag : ∀ k, k < σ.next → I (T k) = false → T' k = T k
  get : ∀ k o, k < σ.next → I (T k) = false → σ.get k = some o → τ.get k = some o
abbrev only (t : Nat) : Nat → Bool := fun j => j == t
theorem Hop.le (h : Hop I σ T τ T') (hj : I j = false) : Hle (σ.at T j) (τ.at T' j) := ⟨h.next, fun k o hk hg => by
  obtain ⟨rfl, h2⟩ := at_get.1 hg
  exact at_of (h.tag k hk hj) (h.get k o hk hj h2)⟩
theorem Hop.refl (hn : Tn σ T) : Hop I σ T σ T := ⟨Nat.le_refl _, hn, fun _ _ _ => rfl, fun _ _ _ _ h => h⟩
theorem Hop.trans (h : Hop I σ T τ T') (k : Hop I τ T' υ T2) : Hop I σ T υ T2 := ⟨Nat.le_trans h.next k.next, k.tn, fun j hj hI => by
    have e := h.tag j hj hI
    rw [k.tag j (Nat.lt_of_lt_of_le hj h.next) (by rw [e]; exact hI), e], fun j o hj hI hg => by
    have e := h.tag j hj hI
    exact k.get j o (Nat.lt_of_lt_of_le hj h.next) (by rw [e]; exact hI) (h.get j o hj hI hg)⟩
theorem Hop.sub (h : Hop I σ T τ T') (k : ∀ i, I i = true → J i = true) : Hop J σ T τ T' := by
  have key : ∀ i, J i = false → I i = false := fun i hi => by
    cases e : I i
    · rfl
    · rw [k i e] at hi; cases hi
  exact ⟨h.next, h.tn, fun j hj hJ => h.tag j hj (key _ hJ), fun j o hj hJ => h.get j o hj (key _ hJ)⟩
theorem Hop.of (hn : Tn σ T) (L : Hle σ τ) : Hop I σ T τ T := ⟨L.next, hn.mono L, fun _ _ _ => rfl, fun k o hk _ h => L.get k o hk h⟩
theorem hop_set (hn : Tn σ T) (hl : T l = t) : Hop (only t) σ T (σ.set l o) T := ⟨Nat.le_refl _, ⟨hn.z⟩, fun _ _ _ => rfl, fun k x _ hI hg => by
  rw [hset_get, if_neg (fun e => by subst e; simp [only, hl] at hI)]; exact hg⟩
theorem hop_kill (hn : Tn σ T) (hl : T l = t) : Hop (only t) σ T (σ.kill l) T := ⟨Nat.le_refl _, ⟨hn.z⟩, fun _ _ _ => rfl, fun k x _ hI hg => by
  rw [hkill_get, if_neg (fun e => by subst e; simp [only, hl] at hI)]; exact hg⟩
theorem hop_new (hn : Tn σ T) : Hop (only t) σ T (σ.new o) (T.upd σ.next t) := ⟨Nat.le_succ _, ⟨fun k hk => by
    have hk : σ.next + 1 ≤ k := hk
    rw [upd_ne (by omega)]; exact hn.z k (by omega)⟩, fun k hk _ => upd_ne (by omega), fun k x hk _ hg => by rw [hnew_get, if_neg (by omega)]; exact hg⟩
end
theorem get_setV (τ : Heap) (l : Nat) (o : AObj) : (τ.set l o).get l = some o := by rw [hset_get, if_pos rfl]

/-! ### Windows -/
theorem win {cs ds : List AVal} {a b n : Nat} (h : ∀ q, q < n → cs[a + q]? = ds[b + q]?) : (cs.drop a).take n = (ds.drop b).take n := by
  apply List.ext_getElem? fun q => ?_
  by_cases hq : q < n
  · rw [List.getElem?_take_of_lt hq, List.getElem?_take_of_lt hq, List.getElem?_drop, List.getElem?_drop]; exact h q hq
  · rw [List.getElem?_eq_none (by simp; omega), List.getElem?_eq_none (by simp; omega)]
theorem mul_lt {i n s : Nat} (h : i < n) : i * s + s ≤ n * s := by rw [← Nat.succ_mul]; exact Nat.mul_le_mul_right _ h

section
variable {α β : Type} {v : Vw α} {σ τ : Heap} {T T' : Tg} {t i : Nat} {xs ys : List α} {x y : AVal} {a : α}
/-- A slice of one's own. -/
def Own (v : Vw α) (σ : Heap) (xs : List α) (x : AVal) : Prop := (x = .nils ∧ xs = []) ∨ ∃ l off c cs, x = .sl l off xs.length c ∧ l < σ.next ∧ σ.get l = some (.cells .rw v.sz cs) ∧
  (∀ k, c = some k → (off + k) * v.sz ≤ cs.length) ∧ (off + xs.length) * v.sz ≤ cs.length ∧ ∀ i a, xs[i]? = some a → v.rel σ a ((cs.drop ((off + i) * v.sz)).take v.sz)
theorem Own.sl (h : Own v σ xs x) : SlV v σ xs x := by
  rcases h with h | ⟨l, off, c, cs, h1, h2, h3, _, h4, h5⟩
  · exact .inl h
  · exact .inr ⟨l, off, c, .rw, cs, h1, h2, h3, h4, h5⟩
theorem Own.mono (h : Own v σ xs x) (L : Hle σ τ) : Own v τ xs x := by
  rcases h with h | ⟨l, off, c, cs, h1, h2, h3, h6, h4, h5⟩
  · exact .inl h
  · exact .inr ⟨l, off, c, cs, h1, Nat.lt_of_lt_of_le h2 L.next, L.get _ _ h2 h3, h6, h4, fun i a ha => v.mono L (h5 i a ha)⟩
theorem Own.slT (h : Own v (σ.at T t) xs x) : SlV v σ xs x := h.sl.mono at_le
theorem SlV.up (h : SlV v (σ.at T t) xs x) : SlV v σ xs x := h.mono at_le
theorem Own.nil : Own v σ [] .nils := .inl ⟨rfl, rfl⟩

/-- Appending to a slice of one's own. -/
theorem Own.app (hf : v.Flat) (h : Own v (σ.at T t) xs x) (hn : Tn σ T) {ds : List AVal} (hd : ds.length = ys.length * v.sz) (hr : ∀ i a, ys[i]? = some a → v.rel σ a ((ds.drop (i * v.sz)).take v.sz)) {bytes : Nat}
    (hb : (xs.length + ys.length) * bytes ≤ 70368744177664) (hb' : xs.length + ys.length ≤ 70368744177664) :
    ∃ x' τ T', (∀ {R : Type} (K : AVal → Heap → Option R), appC σ v.sz bytes x ds ys.length K = K x' τ) ∧ Own v (τ.at T' t) (xs ++ ys) x' ∧ Hop (only t) σ T τ T' := by
  by_cases h0 : ys.length = 0
  · have : ys = [] := List.eq_nil_of_length_eq_zero h0
    subst this
    rw [List.append_nil]
    refine ⟨x, σ, T, fun K => ?_, h, Hop.refl hn⟩
    rcases h with ⟨rfl, rfl⟩ | ⟨l, off, c, cs, rfl, h2, h3, h6, h4, h5⟩
    · rfl
    · simp only [appC, (at_get.1 h3).2]
      rw [if_pos ⟨trivial, v.pos, h4⟩, if_pos (by rfl)]
  have hfresh : ∀ (σ' : Heap) (hn' : Tn σ' T) (es : List AVal), es.length = xs.length * v.sz → (∀ i a, xs[i]? = some a → v.rel σ a ((es.drop (i * v.sz)).take v.sz)) →
      Own v ((σ'.new (.cells .rw v.sz (es ++ ds))).at (T.upd σ'.next t) t) (xs ++ ys) (.sl σ'.next 0 (xs.length + ys.length) none) := fun σ' hn' es he hes => by
    refine .inr ⟨σ'.next, 0, none, es ++ ds, by simp, Nat.lt_succ_self _, at_of upd_self (by rw [hnew_get, if_pos rfl]), (fun k e => by cases e), by simp [he, hd, Nat.add_mul], fun i a hi => ?_⟩
    rw [Nat.zero_add]
    by_cases hlt : i < xs.length
    · rw [List.getElem?_append_left hlt] at hi
      have := mul_lt (s := v.sz) hlt
      refine hf σ _ _ _ ?_
      rw [win (ds := es) (b := i * v.sz) fun q hq => List.getElem?_append_left (by omega)]
      exact hes i a hi
    · rw [List.getElem?_append_right (by omega)] at hi
      refine hf σ _ _ _ ?_
      have e : i * v.sz = xs.length * v.sz + (i - xs.length) * v.sz := by rw [← Nat.add_mul]; congr 1; omega
      rw [win (ds := ds) (b := (i - xs.length) * v.sz) fun q hq => by rw [List.getElem?_append_right (by omega)]; congr 1; omega]
      exact hr _ a hi
  rcases h with ⟨rfl, rfl⟩ | ⟨l, off, c, cs, rfl, h2, h3, h6, h4, h5⟩
  · simp only [List.length_nil, Nat.zero_add] at hb hb'
    have := hfresh σ hn [] (by simp) (fun i a hi => by simp at hi)
    simp only [List.nil_append, List.length_nil, Nat.zero_add] at this
    exact ⟨_, _, _, fun K => by simp only [appC]; rw [if_neg h0, if_pos ⟨hb, hb'⟩]; rfl, this, hop_new hn⟩
  obtain ⟨hTl, hg⟩ := at_get.1 h3
  have hroom : (off + xs.length + ys.length) * v.sz ≤ cs.length → Own v ((σ.set l (.cells .rw v.sz (cs.take ((off + xs.length) * v.sz) ++ ds ++ cs.drop ((off + xs.length + ys.length) * v.sz)))).at T t) (xs ++ ys) (.sl l off (xs.length + ys.length) c) := fun hroom => by
    have hA : (off + xs.length + ys.length) * v.sz = (off + xs.length) * v.sz + ys.length * v.sz := Nat.add_mul ..
    have hlen : (cs.take ((off + xs.length) * v.sz) ++ ds ++ cs.drop ((off + xs.length + ys.length) * v.sz)).length = cs.length := by
      simp only [List.length_append, List.length_take, List.length_drop]; omega
    refine .inr ⟨l, off, c, _, by simp, h2, at_of hTl (get_setV ..), (fun k e => by rw [hlen]; exact h6 k e), by rw [hlen, List.length_append]; simpa [Nat.add_assoc] using hroom, fun i a hi => ?_⟩
    by_cases hlt : i < xs.length
    · rw [List.getElem?_append_left hlt] at hi
      have := mul_lt (s := v.sz) (show off + i < off + xs.length by omega)
      refine hf (σ.at T t) _ _ _ ?_
      rw [win (ds := cs) (b := (off + i) * v.sz) fun q hq => by
        rw [List.append_assoc, List.getElem?_append_left (by simp only [List.length_take]; omega), List.getElem?_take_of_lt (by omega)]]
      exact h5 i a hi
    · rw [List.getElem?_append_right (by omega)] at hi
      have hlt2 := (List.getElem?_eq_some_iff.1 hi).1
      have := mul_lt (s := v.sz) hlt2
      refine hf σ _ _ _ ?_
      have e : (off + i) * v.sz = (off + xs.length) * v.sz + (i - xs.length) * v.sz := by rw [← Nat.add_mul]; congr 1; omega
      rw [win (ds := ds) (b := (i - xs.length) * v.sz) fun q hq => by
        rw [List.append_assoc, List.getElem?_append_right (by simp only [List.length_take]; omega), List.getElem?_append_left (by simp only [List.length_take]; omega)]
        congr 1; simp only [List.length_take]; omega]
      exact hr _ a hi
  have hfr : ∀ (σ' : Heap) (hn' : Tn σ' T), Own v ((σ'.new (.cells .rw v.sz ((cs.drop (off * v.sz)).take (xs.length * v.sz) ++ ds))).at (T.upd σ'.next t) t) (xs ++ ys) (.sl σ'.next 0 (xs.length + ys.length) none) := fun σ' hn' => by
    have e : (off + xs.length) * v.sz = off * v.sz + xs.length * v.sz := Nat.add_mul ..
    refine hfresh σ' hn' _ (by simp only [List.length_take, List.length_drop]; omega) fun i a hi => ?_
    have hlt := (List.getElem?_eq_some_iff.1 hi).1
    have := mul_lt (s := v.sz) hlt
    have e2 : (off + i) * v.sz = off * v.sz + i * v.sz := Nat.add_mul ..
    refine hf (σ.at T t) _ _ _ ?_
    rw [win (ds := cs) (b := (off + i) * v.sz) fun q hq => by
      rw [List.getElem?_take_of_lt (by omega), List.getElem?_drop]; congr 1; omega]
    exact h5 i a hi
  cases c with
  | some k =>
    by_cases hk : xs.length + ys.length ≤ k
    · have := h6 k rfl
      have h7 : (off + xs.length + ys.length) * v.sz ≤ (off + k) * v.sz := Nat.mul_le_mul_right _ (by omega)
      refine ⟨_, _, T, fun K => ?_, hroom (by omega), hop_set hn hTl⟩
      simp only [appC, hg]
      rw [if_pos ⟨trivial, v.pos, h4⟩, if_neg h0, if_pos ⟨hb, hb'⟩]
      simp only [hk, if_true]
      rw [if_pos ⟨trivial, by omega⟩]
    · refine ⟨_, _, _, fun K => ?_, hfr σ hn, hop_new hn⟩
      simp only [appC, hg]
      rw [if_pos ⟨trivial, v.pos, h4⟩, if_neg h0, if_pos ⟨hb, hb'⟩]
      simp only [if_neg hk]
      rfl
  | none =>
    by_cases hr2 : (off + xs.length + ys.length) * v.sz ≤ cs.length
    · refine ⟨_, _, T, fun K => ?_, hroom hr2, hop_set hn hTl⟩
      simp only [appC, hg]
      rw [if_pos ⟨trivial, v.pos, h4⟩, if_neg h0, if_pos ⟨hb, hb'⟩]
      simp only [if_true, if_pos hr2]
    · have hn' : Tn (σ.kill l) T := ⟨hn.z⟩
      refine ⟨_, _, _, fun K => ?_, hfr (σ.kill l) hn', (hop_kill hn hTl).trans (hop_new hn')⟩
      simp only [appC, hg]
      rw [if_pos ⟨trivial, v.pos, h4⟩, if_neg h0, if_pos ⟨hb, hb'⟩]
      simp only [if_true, if_neg hr2]
      rfl

/-- Where an element's cell is. -/
def ptrK (x : AVal) (sz i k : Nat) : AVal := match x with
  | .sl l off _ _ => .ptr l ((off + i) * sz + k)
  | _ => .nilp
theorem Own.store (hf : v.Flat) (h : Own v (σ.at T t) xs x) (hn : Tn σ T) (hi : xs[i]? = some a) {k : Nat} {as0 vs : List AVal} {a' : α} (hk : k + vs.length ≤ v.sz) (hra : v.rel σ a as0 → v.rel σ a' (as0.take k ++ vs ++ as0.drop (k + vs.length)))
    (has : ∀ bs, v.rel σ a bs → bs = as0) : ∃ τ, (∀ {R : Type} (K : Heap → Option R), stC σ (ptrK x v.sz i k) vs K = K τ) ∧ Own v (τ.at T t) (xs.set i a') x ∧ Hop (only t) σ T τ T ∧ τ.next = σ.next := by
  rcases h with ⟨rfl, rfl⟩ | ⟨l, off, c, cs, rfl, h2, h3, h6, h4, h5⟩
  · simp at hi
  · obtain ⟨hTl, hg⟩ := at_get.1 h3
    have hlt := (List.getElem?_eq_some_iff.1 hi).1
    have e := mul_lt (s := v.sz) (show off + i < off + xs.length by omega)
    have hr := hf _ σ _ _ (h5 i a hi)
    have hea := has _ hr
    have hlen : (cs.take ((off + i) * v.sz + k) ++ vs ++ cs.drop ((off + i) * v.sz + k + vs.length)).length = cs.length := by
      simp only [List.length_append, List.length_take, List.length_drop]; omega
    refine ⟨σ.set l (.cells .rw v.sz (cs.take ((off + i) * v.sz + k) ++ vs ++ cs.drop ((off + i) * v.sz + k + vs.length))), fun K => ?_, .inr ⟨l, off, c, _, by simp, h2, at_of hTl (get_setV ..), (fun k e => by rw [hlen]; exact h6 k e), by rw [hlen, List.length_set]; exact h4, fun j b hj => ?_⟩, hop_set hn hTl, rfl⟩
    · simp only [ptrK, stC, hg]
      rw [if_pos (by omega)]
    · rw [List.getElem?_set] at hj
      by_cases hij : i = j
      · subst hij
        rw [if_pos rfl, if_pos hlt] at hj
        cases hj
        refine hf σ _ _ _ ?_
        subst hea
        have : ((cs.take ((off + i) * v.sz + k) ++ vs ++ cs.drop ((off + i) * v.sz + k + vs.length)).drop ((off + i) * v.sz)).take v.sz = ((cs.drop ((off + i) * v.sz)).take v.sz).take k ++ vs ++ ((cs.drop ((off + i) * v.sz)).take v.sz).drop (k + vs.length) := by
          apply List.ext_getElem? fun q => ?_
          by_cases q1 : q < v.sz
          · rw [List.getElem?_take_of_lt q1, List.getElem?_drop]
            by_cases q2 : q < k
            · rw [List.append_assoc, List.append_assoc, List.getElem?_append_left (by simp; omega), List.getElem?_append_left (by simp; omega), List.getElem?_take_of_lt (by omega), List.getElem?_take_of_lt q2, List.getElem?_take_of_lt q1, List.getElem?_drop]
            · by_cases q3 : q < k + vs.length
              · rw [List.getElem?_append_left (by simp; omega), List.getElem?_append_right (by simp; omega), List.getElem?_append_left (by simp; omega), List.getElem?_append_right (by simp; omega)]
                congr 1; simp; omega
              · rw [List.getElem?_append_right (by simp; omega), List.getElem?_append_right (by simp; omega), List.getElem?_drop, List.getElem?_drop, List.getElem?_take_of_lt (by simp; omega), List.getElem?_drop]
                congr 1; simp; omega
          · rw [List.getElem?_eq_none (by simp; omega), List.getElem?_eq_none (by simp; omega)]
        rw [this]
        exact hra hr
      · rw [if_neg hij] at hj
        have hjl := (List.getElem?_eq_some_iff.1 hj).1
        have e2 := mul_lt (s := v.sz) (show off + j < off + xs.length by omega)
        refine hf (σ.at T t) _ _ _ ?_
        rw [win (ds := cs) (b := (off + j) * v.sz) fun q hq => ?_]
        · exact h5 j b hj
        · rcases Nat.lt_or_gt_of_ne hij with hlt' | hgt
          · have e3 := mul_lt (s := v.sz) (show off + i < off + j by omega)
            rw [List.getElem?_append_right (by simp only [List.length_append, List.length_take]; omega), List.getElem?_drop]
            congr 1; simp only [List.length_append, List.length_take]; omega
          · have e3 := mul_lt (s := v.sz) (show off + j < off + i by omega)
            rw [List.append_assoc, List.getElem?_append_left (by simp only [List.length_take]; omega), List.getElem?_take_of_lt (by omega)]
/-- A part of a slice. -/
theorem SlV.slice (h : SlV v σ xs x) {lo hi : Nat} (h1 : lo ≤ hi) (h2 : hi ≤ xs.length) : ∃ x', (∀ {τ : Heap}, Hle σ τ → ∀ {R : Type} (K : AVal → Option R), slS τ v.sz x (lo : Int) (some (hi : Int)) none K = K x' ∧ (hi = xs.length → slS τ v.sz x (lo : Int) none none K = K x')) ∧ SlV v σ ((xs.take hi).drop lo) x' := by
  rcases h with ⟨rfl, rfl⟩ | ⟨l, off, c, md, cs, rfl, k2, k3, k4, k5⟩
  · simp at h2
    obtain rfl : lo = 0 := by omega
    subst h2
    exact ⟨.nils, fun L _ K => ⟨by simp [slS], fun _ => by simp [slS]⟩, .inl ⟨rfl, rfl⟩⟩
  · refine ⟨.sl l (off + lo) (hi - lo) (clipTo none c lo), fun {τ} L R K => ⟨?_, fun e => ?_⟩, .inr ⟨l, off + lo, _, md, cs, by rw [List.length_drop, List.length_take, Nat.min_eq_left h2], k2, k3, ?_, fun i a ha => ?_⟩⟩
    · simp only [slS, L.get _ _ k2 k3]
      rw [if_pos ⟨trivial, by omega, by simp; omega, by simp; omega, by simp, by simp⟩]
      simp
    · subst e
      simp only [slS, L.get _ _ k2 k3]
      rw [if_pos ⟨trivial, by omega, by simp; omega, by simp, by simp, by simp⟩]
      simp
    · have h8 : (off + lo + ((xs.take hi).drop lo).length) * v.sz ≤ (off + xs.length) * v.sz := Nat.mul_le_mul_right _ (by simp; omega)
      omega
    · rw [List.getElem?_drop, List.getElem?_take] at ha
      split at ha
      · have := k5 _ _ ha
        rwa [← Nat.add_assoc] at this
      · cases ha
/-- A part of a slice of one's own. -/
theorem Own.slice (h : Own v σ xs x) {lo hi : Nat} (h1 : lo ≤ hi) (h2 : hi ≤ xs.length) : ∃ x', (∀ {τ : Heap}, Hle σ τ → ∀ {R : Type} (K : AVal → Option R), slS τ v.sz x (lo : Int) (some (hi : Int)) none K = K x' ∧ (hi = xs.length → slS τ v.sz x (lo : Int) none none K = K x')) ∧ Own v σ ((xs.take hi).drop lo) x' := by
  rcases h with ⟨rfl, rfl⟩ | ⟨l, off, c, cs, rfl, k2, k3, k6, k4, k5⟩
  · simp at h2
    obtain rfl : lo = 0 := by omega
    subst h2
    exact ⟨.nils, fun L _ K => ⟨by simp [slS], fun _ => by simp [slS]⟩, .inl ⟨rfl, rfl⟩⟩
  · refine ⟨.sl l (off + lo) (hi - lo) (clipTo none c lo), fun {τ} L R K => ⟨?_, fun e => ?_⟩, .inr ⟨l, off + lo, _, cs, by rw [List.length_drop, List.length_take, Nat.min_eq_left h2], k2, k3, fun k e => ?_, ?_, fun i a ha => ?_⟩⟩
    · simp only [slS, L.get _ _ k2 k3]
      rw [if_pos ⟨trivial, by omega, by simp; omega, by simp; omega, by simp, by simp⟩]
      simp
    · subst e
      simp only [slS, L.get _ _ k2 k3]
      rw [if_pos ⟨trivial, by omega, by simp; omega, by simp, by simp, by simp⟩]
      simp
    · cases c with
      | none => simp [clipTo] at e
      | some m =>
        simp [clipTo] at e
        have := k6 m rfl
        by_cases hm : lo ≤ m
        · rw [show off + lo + k = off + m by omega]; exact this
        · have h8 : (off + lo + k) * v.sz ≤ (off + xs.length) * v.sz := Nat.mul_le_mul_right _ (by omega)
          omega
    · have h8 : (off + lo + ((xs.take hi).drop lo).length) * v.sz ≤ (off + xs.length) * v.sz := Nat.mul_le_mul_right _ (by simp; omega)
      omega
    · rw [List.getElem?_drop, List.getElem?_take] at ha
      split at ha
      · have := k5 _ _ ha
        rwa [← Nat.add_assoc] at this
      · cases ha
end
/-! ### Facts at tags, behind a step -/
section
variable {α : Type} {v : Vw α} {σ τ : Heap} {T T' : Tg} {t l : Nat} {xs : List α} {x : AVal} {cs : List AVal} {I : Nat → Bool} {ps : List (Int × AVal)}
theorem Loc.hop (h : Loc (σ.at T t) l cs) (H : Hop I σ T τ T') (hI : I t = false := by rfl) : Loc (τ.at T' t) l cs := h.mono (H.le hI)
theorem Own.hop (h : Own v (σ.at T t) xs x) (H : Hop I σ T τ T') (hI : I t = false := by rfl) : Own v (τ.at T' t) xs x := h.mono (H.le hI)
theorem SlV.hop (h : SlV v (σ.at T t) xs x) (H : Hop I σ T τ T') (hI : I t = false := by rfl) : SlV v (τ.at T' t) xs x := h.mono (H.le hI)
theorem MapV.hop (h : MapV (σ.at T t) l ps) (H : Hop I σ T τ T') (hI : I t = false := by rfl) : MapV (τ.at T' t) l ps := h.mono (H.le hI)
theorem Hop.hop {J : Nat → Bool} {σ0 : Heap} {T0 : Tg} (h : Hop J σ0 T0 σ T) (H : Hop I σ T τ T') (hI : ∀ i, I i = true → J i = true := by intro i hi; simp at hi ⊢; omega) : Hop J σ0 T0 τ T' := h.trans (H.sub hI)
theorem Hop.hle {J : Nat → Bool} {σ0 : Heap} {T0 : Tg} (h : Hop J σ0 T0 σ T) (L : Hle σ τ) : Hop J σ0 T0 τ T := h.trans (Hop.of h.tn L)
theorem Loc.hle (h : Loc (σ.at T t) l cs) (L : Hle σ τ) : Loc (τ.at T t) l cs := h.mono (L.ats T t)
theorem Own.hle (h : Own v (σ.at T t) xs x) (L : Hle σ τ) : Own v (τ.at T t) xs x := h.mono (L.ats T t)
theorem SlV.hle (h : SlV v (σ.at T t) xs x) (L : Hle σ τ) : SlV v (τ.at T t) xs x := h.mono (L.ats T t)
theorem MapV.hle (h : MapV (σ.at T t) l ps) (L : Hle σ τ) : MapV (τ.at T t) l ps := h.mono (L.ats T t)
end
/-! ### Rules -/
section
variable {R α β : Type} {v : Vw α} {w : Vw β} {σ : Heap} {T : Tg} {t i l : Nat} {xs ys : List α} {x y : AVal} {a : α} {cs : List AVal} {Q : R → Prop}
theorem W.own_push (hf : v.Flat) (h : Own v (σ.at T t) xs x) (hn : Tn σ T) (hr : v.rel σ a cs) {sz bytes : Nat} (hb : (xs.length + 1) * bytes ≤ 70368744177664) (hb' : xs.length + 1 ≤ 70368744177664) {K : AVal → Heap → Option R}
    (c : ∀ x' τ T', Own v (τ.at T' t) (xs ++ [a]) x' → Hop (only t) σ T τ T' → W (K x' τ) Q) (hs : sz = v.sz := by rfl) : W (newK σ sz cs fun l τ => appS τ sz bytes x (.sl l 0 1 none) K) Q := by
  subst hs
  have L1 := (Hle.refl σ).new (.cells .rw v.sz cs)
  have hc := v.len hr
  obtain ⟨x', τ, T', e, h1, h2⟩ := (h.mono (L1.ats T t)).app hf (hn.mono L1) (ds := cs) (ys := [a]) (by simpa using hc) (fun i b hb => by
    match i, hb with
    | 0, hb =>
      cases hb
      rw [Nat.zero_mul, List.drop_zero, List.take_of_length_le (by omega)]
      exact v.mono L1 hr
    | i + 1, hb => simp at hb) (bytes := bytes) (by simpa using hb) (by simpa using hb')
  refine W.to ?_ (c x' τ T' h1 ((Hop.of hn L1).trans h2))
  rw [← e K]
  simp only [newK, appS, srcK, hnew_get, if_true, List.length_singleton]
  rw [if_pos ⟨trivial, by simp [hc]⟩]
  simp [← hc]
theorem W.own_set (hf : v.Flat) (h : Own v (σ.at T t) xs x) (hn : Tn σ T) (hi : xs[i]? = some a) {k sz : Nat} (as0 : List AVal) {vs : List AVal} (a' : α) {K : Heap → Option R} (hk : k + vs.length ≤ v.sz)
    (has : ∀ bs, v.rel σ a bs → bs = as0) (hra : v.rel σ a as0 → v.rel σ a' (as0.take k ++ vs ++ as0.drop (k + vs.length)))
    (c : ∀ τ, Own v (τ.at T t) (xs.set i a') x → Hop (only t) σ T τ T → τ.next = σ.next → W (K τ) Q) (hs : sz = v.sz := by rfl) : W (stC σ (ptrK x sz i k) vs K) Q := by
  subst hs
  obtain ⟨τ, e, h1, h2, h3⟩ := h.store hf hn hi hk hra has
  exact W.to (e K) (c τ h1 h2 h3)
/-- Own flat elements of one cell. -/
theorem W.own_setI {xs : List Int} {a : Int} (h : Own .int (σ.at T t) xs x) (hn : Tn σ T) (hi : i < xs.length) {K : Heap → Option R}
    (c : ∀ τ, Own .int (τ.at T t) (xs.set i a) x → Hop (only t) σ T τ T → τ.next = σ.next → W (K τ) Q) : W (stC σ (ptrK x 1 i 0) [.int .i64 a] K) Q :=
  W.own_set Vw.int_flat h hn (List.getElem?_eq_getElem hi) [.int .i64 xs[i]] a (Nat.le_refl _) (fun _ h => h) (fun _ => rfl) c
theorem W.own_setB {xs : List Bool} {a : Bool} (h : Own .bool (σ.at T t) xs x) (hn : Tn σ T) (hi : i < xs.length) {K : Heap → Option R}
    (c : ∀ τ, Own .bool (τ.at T t) (xs.set i a) x → Hop (only t) σ T τ T → τ.next = σ.next → W (K τ) Q) : W (stC σ (ptrK x 1 i 0) [.bool a] K) Q :=
  W.own_set Vw.bool_flat h hn (List.getElem?_eq_getElem hi) [.bool xs[i]] a (Nat.le_refl _) (fun _ h => h) (fun _ => rfl) c
/-- A value as0 it is. -/
def vRaw : Vw AVal := ⟨1, fun _ a us => us = [a], Nat.one_pos, fun h => by rw [h]; rfl, fun _ h => h⟩
theorem vRaw_flat : vRaw.Flat := fun _ _ _ _ h => h
theorem W.own_setV {xs : List AVal} {a : AVal} (h : Own vRaw (σ.at T t) xs x) (hn : Tn σ T) (hi : i < xs.length) {K : Heap → Option R}
    (c : ∀ τ, Own vRaw (τ.at T t) (xs.set i a) x → Hop (only t) σ T τ T → τ.next = σ.next → W (K τ) Q) : W (stC σ (ptrK x 1 i 0) [a] K) Q :=
  W.own_set vRaw_flat h hn (List.getElem?_eq_getElem hi) [xs[i]] a (Nat.le_refl _) (fun _ h => h) (fun _ => rfl) c
/-- Where an element is. -/
theorem W.ixO (h : SlV v σ xs x) (hi : i < xs.length) {sz : Nat} {K : AVal → Option R} (c : W (K (ptrK x sz i 0)) Q) (hs : sz = v.sz := by rfl) : W (ixA σ x sz (i : Int) K) Q := by
  subst hs
  rcases h with ⟨rfl, rfl⟩ | ⟨l, off, c', md, cs, rfl, h2, h3, h4, h5⟩
  · simp at hi
  · refine W.to ?_ c
    simp only [ixA, h3]
    rw [if_pos ⟨trivial, by omega, by omega⟩, Int.toNat_natCast]
    rfl
theorem W.ldO (h : SlV v σ xs x) (hi : xs[i]? = some a) {sz k : Nat} {u : AVal} {kd : Kd} {K : kd.ty → Option R} (hk : ∀ as0, v.rel σ a as0 → as0[k]? = some u) (c : W (asK kd u K) Q) (hs : sz = v.sz := by rfl) : W (ld σ (ptrK x sz i k) kd K) Q := by
  subst hs
  rcases h with ⟨rfl, rfl⟩ | ⟨l, off, c', md, cs, rfl, h2, h3, h4, h5⟩
  · simp at hi
  · have hr := h5 i a hi
    have h6 := hk _ hr
    have hlt : k < v.sz := by rw [← v.len hr]; exact (List.getElem?_eq_some_iff.1 h6).1
    rw [List.getElem?_take_of_lt hlt, List.getElem?_drop] at h6
    refine W.to ?_ c
    simp only [ptrK, ld, Heap.cell, h3, h6]
theorem W.ldOI {xs : List Int} {a : Int} (h : SlV .int σ xs x) (hi : xs[i]? = some a) {K : Int → Option R} (c : W (K a) Q) : W (ld σ (ptrK x 1 i 0) (.I .i64) K) Q :=
  W.ldO h hi (u := .int .i64 a) (fun as0 h => by have h : as0 = [.int .i64 a] := h; rw [h]; rfl) c
theorem W.ldOV {xs : List AVal} {a : AVal} (h : SlV vRaw σ xs x) (hi : xs[i]? = some a) {K : AVal → Option R} (c : W (K a) Q) : W (ld σ (ptrK x 1 i 0) .V K) Q :=
  W.ldO h hi (u := a) (fun as0 h => by have h : as0 = [a] := h; rw [h]; rfl) c
/-- An element, read at once. -/
theorem W.ixV {xs : List AVal} {a : AVal} (h : SlV vRaw σ xs x) (hi : xs[i]? = some a) {K : AVal → Option R} (c : W (K a) Q) : W (ixA σ x 1 (i : Int) fun p => ld σ p .V K) Q :=
  W.ixO h (List.getElem?_eq_some_iff.1 hi).1 (W.ldOV h hi c)

/-! ### Objects with tags -/
theorem W.newT (t : Nat) (hn : Tn σ T) {sz : Nat} {K : Nat → Heap → Option R} (c : ∀ l τ T', l = σ.next → Hop (only t) σ T τ T' → Loc (τ.at T' t) l cs → τ.next = σ.next + 1 → W (K l τ) Q) : W (newK σ sz cs K) Q :=
  c σ.next _ (T.upd σ.next t) rfl (hop_new hn) ⟨Nat.lt_succ_self _, sz, at_of upd_self (by rw [hnew_get, if_pos rfl])⟩ rfl
theorem W.new0 (hn : Tn σ T) {sz : Nat} {K : Nat → Heap → Option R} (c : ∀ l τ, l = σ.next → Hle σ τ → Loc (τ.at T 0) l cs → Tn τ T → W (K l τ) Q) : W (newK σ sz cs K) Q :=
  have L := (Hle.refl σ).new (.cells .rw sz cs)
  c σ.next _ rfl L ⟨Nat.lt_succ_self _, sz, at_of (hn.z _ (Nat.le_refl _)) (by rw [hnew_get, if_pos rfl])⟩ (hn.mono L)
theorem W.stT {o : Nat} {vs : List AVal} (h : Loc (σ.at T t) l cs) (hn : Tn σ T) (hv : o + vs.length ≤ cs.length) {K : Heap → Option R} (c : ∀ τ, Hop (only t) σ T τ T → Loc (τ.at T t) l (cs.take o ++ vs ++ cs.drop (o + vs.length)) → τ.next = σ.next → W (K τ) Q) : W (stC σ (.ptr l o) vs K) Q := by
  obtain ⟨sz, e⟩ := h.get
  obtain ⟨e1, e2⟩ := at_get.1 e
  refine W.to (o' := K (σ.set l (.cells .rw sz (cs.take o ++ vs ++ cs.drop (o + vs.length))))) ?_ (c _ (hop_set hn e1) ⟨h.lt, sz, at_of e1 (get_setV ..)⟩ rfl)
  simp only [stC, e2, if_pos hv]
theorem W.st0T {vs : List AVal} (h : Loc (σ.at T t) l cs) (hn : Tn σ T) (hv : vs.length = cs.length) {K : Heap → Option R} (c : ∀ τ, Hop (only t) σ T τ T → Loc (τ.at T t) l vs → τ.next = σ.next → W (K τ) Q) : W (stC σ (.ptr l 0) vs K) Q := by
  refine W.stT h hn (by omega) fun τ a b d => c τ a ?_ d
  have : cs.take 0 ++ vs ++ cs.drop (0 + vs.length) = vs := by simp [hv]
  rwa [this] at b
theorem Loc.up (h : Loc (σ.at T t) l cs) : Loc σ l cs := h.mono at_le
theorem W.mgetT {ps : List (Int × AVal)} (h : MapV (σ.at T t) l ps) {n : Int} {z : AVal} {K : AVal → Bool → Option R} (c : W (K ((look ps n).getD z) (look ps n).isSome) Q) : W (A.mgetZ σ (.map l) .i64 n z K) Q := W.to ((h.mono at_le).mgetZ z K) c
theorem W.mputT {ps : List (Int × AVal)} (h : MapV (σ.at T t) l ps) (hn : Tn σ T) {n : Int} {x : AVal} {K : Heap → Option R}
    (c : ∀ τ qs, MapV (τ.at T t) l qs → (∀ k, look qs k = if k = n then some x else look ps k) → Hop (only t) σ T τ T → τ.next = σ.next → W (K τ) Q) : W (mputK σ (.map l) .i64 n x K) Q := by
  have hg := at_get.1 h.get
  obtain ⟨qs, h1, h2, h3, _⟩ := (h.mono at_le).mput n x
  exact W.to (h1 K) (c _ qs ⟨h2.lt, at_of hg.1 h2.get, h2.nodup⟩ h3 (hop_set hn hg.1) rfl)
theorem W.newMT (t : Nat) (hn : Tn σ T) {K : Nat → Heap → Option R} (c : ∀ l τ T', l = σ.next → Hop (only t) σ T τ T' → MapV (τ.at T' t) l [] → τ.next = σ.next + 1 → W (K l τ) Q) : W (A.newM σ K) Q :=
  have h := MapV.new σ
  c σ.next _ (T.upd σ.next t) rfl (hop_new hn) ⟨h.lt, at_of upd_self h.get, h.nodup⟩ rfl
end
end Go.Proofs.YtgneblbblihaoaaGreatDoor.A
