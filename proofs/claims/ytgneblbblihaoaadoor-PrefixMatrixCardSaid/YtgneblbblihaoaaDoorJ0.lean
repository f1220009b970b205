/- Views of abstract heaps: lists behind slices; what was there stays. -/
import Derived.Test.YtgneblbblihaoaaDoorF2
import Derived.Test.YtgneblbblihaoaaDoorF4
set_option linter.all false
namespace Go.Proofs.YtgneblbblihaoaaDoor.A
open Go

theorem wrapS {n : Int} (h0 : -9223372036854775808 ≤ n) (h1 : n < 9223372036854775808) : IntKind.i64.wrap n = n := by
  rw [IntKind.wrap_i64]; omega

theorem hnew_get (σ : Heap) (o : AObj) (k : Nat) : (σ.new o).get k = if k = σ.next then some o else σ.get k := rfl
theorem hkill_get (σ : Heap) (l k : Nat) : (σ.kill l).get k = if k = l then none else σ.get k := rfl
theorem hset_get (σ : Heap) (l k : Nat) (o : AObj) : (σ.set l o).get k = if k = l then some o else σ.get k := rfl
theorem hkill_next (σ : Heap) (l : Nat) : (σ.kill l).next = σ.next := rfl
theorem hset_next (σ : Heap) (l : Nat) (o : AObj) : (σ.set l o).next = σ.next := rfl
theorem hnew_next (σ : Heap) (o : AObj) : (σ.new o).next = σ.next + 1 := rfl

/-- What was there is there, unchanged. -/
structure Hle (σ τ : Heap) : Prop where
  next : σ.next ≤ τ.next
  get : ∀ l o, l < σ.next → σ.get l = some o → τ.get l = some o
section
variable {σ τ υ : Heap} {l : Nat} {o : AObj}
theorem Hle.refl (σ : Heap) : Hle σ σ := ⟨Nat.le_refl _, fun _ _ _ h => h⟩
theorem Hle.trans (h : Hle σ τ) (k : Hle τ υ) : Hle σ υ := ⟨Nat.le_trans h.next k.next, fun l o hl hg => k.get l o (Nat.lt_of_lt_of_le hl h.next) (h.get l o hl hg)⟩
theorem Hle.new (h : Hle σ τ) (o : AObj) : Hle σ (τ.new o) := ⟨Nat.le_succ_of_le h.next, fun l x hl hg => by
  have := h.next
  simp only [Heap.new]; rw [if_neg (by omega)]; exact h.get l x hl hg⟩
theorem Hle.set (h : Hle σ τ) (hl : σ.next ≤ l) (o : AObj) : Hle σ (τ.set l o) := ⟨h.next, fun k x hk hg => by
  simp only [Heap.set]; rw [if_neg (by omega)]; exact h.get k x hk hg⟩
theorem Hle.kill (h : Hle σ τ) (hl : σ.next ≤ l) : Hle σ (τ.kill l) := ⟨h.next, fun k x hk hg => by
  simp only [Heap.kill]; rw [if_neg (by omega)]; exact h.get k x hk hg⟩
theorem Hle.of_kill (σ : Heap) (l : Nat) : Hle (σ.kill l) σ := ⟨Nat.le_refl _, fun k x _ hg => by
  simp only [Heap.kill] at hg; split at hg
  · cases hg
  · exact hg⟩
theorem Hle.kill_set (σ : Heap) (l : Nat) (o : AObj) : Hle (σ.kill l) (σ.set l o) := ⟨Nat.le_refl _, fun k x _ hg => by
  simp only [Heap.kill] at hg; split at hg
  · cases hg
  · rename_i h; simp only [Heap.set]; rw [if_neg h]; exact hg⟩
theorem Hle.killed (h : Hle σ τ) (l : Nat) : Hle (σ.kill l) (τ.kill l) := ⟨h.next, fun k x hk hg => by
  simp only [Heap.kill] at hg ⊢; split at hg
  · cases hg
  · rename_i h1; rw [if_neg h1]; exact h.get k x hk hg⟩
theorem Hle.kill_kill_set (σ : Heap) (l : Nat) (o : AObj) : Hle (σ.kill l) ((σ.set l o).kill l) := ⟨Nat.le_refl _, fun k x _ hg => by
  simp only [Heap.kill] at hg ⊢; split at hg
  · cases hg
  · rename_i h; simp only [Heap.set, if_neg h]; exact hg⟩
end

section
variable {σ τ : Heap} {p : AVal} {as : List AVal} {l o k n : Nat} {a : AVal}
/-- Cells at a pointer. -/
def At (σ : Heap) (p : AVal) (as : List AVal) : Prop := ∃ l o md sz cs, p = .ptr l o ∧ l < σ.next ∧ σ.get l = some (.cells md sz cs) ∧ o + as.length ≤ cs.length ∧ (cs.drop o).take as.length = as
theorem At.mono (h : At σ p as) (L : Hle σ τ) : At τ p as := by
  obtain ⟨l, o, md, sz, cs, h1, h2, h3, h4, h5⟩ := h
  exact ⟨l, o, md, sz, cs, h1, Nat.lt_of_lt_of_le h2 L.next, L.get _ _ h2 h3, h4, h5⟩
theorem At.new (σ : Heap) (sz : Nat) (cs : List AVal) : At (σ.new (.cells .rw sz cs)) (.ptr σ.next 0) cs :=
  ⟨_, 0, .rw, sz, cs, rfl, Nat.lt_succ_self _, by simp [Heap.new], by simp, by simp⟩
theorem At.of_get {md : Md} {sz : Nat} (hl : l < σ.next) (h : σ.get l = some (.cells md sz as)) : At σ (.ptr l 0) as := ⟨_, 0, md, sz, as, rfl, hl, h, by simp, by simp⟩
theorem At.drop (h : At σ (.ptr l o) as) (k : Nat) (hk : k ≤ as.length) : At σ (.ptr l (o + k)) (as.drop k) := by
  obtain ⟨l', o', md, sz, cs, h1, h2, h3, h4, h5⟩ := h
  cases h1
  refine ⟨l, o + k, md, sz, cs, rfl, h2, h3, by simp; omega, ?_⟩
  conv => rhs; rw [← h5]
  rw [List.drop_take, List.drop_drop, List.length_drop]
theorem At.take (h : At σ p as) (k : Nat) (hk : k ≤ as.length) : At σ p (as.take k) := by
  obtain ⟨l', o', md, sz, cs, h1, h2, h3, h4, h5⟩ := h
  refine ⟨l', o', md, sz, cs, h1, h2, h3, by simp; omega, ?_⟩
  conv => rhs; rw [← h5]
  rw [List.take_take, List.length_take]
theorem At.fld (h : At σ p as) (k : Nat) (hk : k ≤ as.length) : ∃ q, (∀ {Rt : Type} (K : AVal → Option Rt), fld p k K = K q) ∧ At σ q (as.drop k) := by
  obtain ⟨l, o, md, sz, cs, rfl, h2⟩ := id h
  exact ⟨.ptr l (o + k), fun K => rfl, h.drop k hk⟩
theorem At.cell {l o : Nat} (h : At σ (.ptr l o) as) (hk : as[k]? = some a) : σ.cell l (o + k) = some a := by
  obtain ⟨l', o', md, sz, cs, h1, h2, h3, h4, h5⟩ := h
  cases h1
  have hlt := (List.getElem?_eq_some_iff.1 hk).1
  have : ((cs.drop o).take as.length)[k]? = some a := by rw [h5, hk]
  rw [List.getElem?_take_of_lt hlt, List.getElem?_drop] at this
  simp only [Heap.cell, h3, this]
theorem At.ld {Rt : Type} {kd : Kd} (h : At σ p (a :: as)) (K : kd.ty → Option Rt) : ld σ p kd K = asK kd a K := by
  obtain ⟨l, o, _, _, _, rfl, _⟩ := id h
  have := h.cell (k := 0) (a := a) rfl
  rw [Nat.add_zero] at this
  simp only [A.ld, this]
theorem At.ld0 {Rt : Type} {kd : Kd} (h : At σ (.ptr l 0) as) (hk : as[k]? = some a) (K : kd.ty → Option Rt) : A.ld σ (.ptr l k) kd K = asK kd a K := by
  have := h.cell hk
  rw [Nat.zero_add] at this
  simp only [A.ld, this]
theorem At.ldG {Rt : Type} (h : At σ p as) (hn : n = as.length) (K : AVal → Option Rt) : ldG σ p n K = K (.agg as) := by
  obtain ⟨l, o, md, sz, cs, rfl, h2, h3, h4, h5⟩ := h
  subst hn
  simp only [A.ldG, h3, if_pos h4, h5]
end

/-- How a datum stands in cells. -/
structure Vw (α : Type) where
  sz : Nat
  rel : Heap → α → List AVal → Prop
  pos : 0 < sz
  len : ∀ {σ a as}, rel σ a as → as.length = sz
  mono : ∀ {σ τ a as}, Hle σ τ → rel σ a as → rel τ a as

variable {α β : Type}
/-- A slice of data. -/
def SlV (v : Vw α) (σ : Heap) (xs : List α) (x : AVal) : Prop := (x = .nils ∧ xs = []) ∨ ∃ l off c md cs, x = .sl l off xs.length c ∧ l < σ.next ∧ σ.get l = some (.cells md v.sz cs) ∧
  (off + xs.length) * v.sz ≤ cs.length ∧ ∀ i a, xs[i]? = some a → v.rel σ a ((cs.drop ((off + i) * v.sz)).take v.sz)
def Vw.int : Vw Int := ⟨1, fun _ a as => as = [.int .i64 a], Nat.one_pos, fun h => by rw [h]; rfl, fun _ h => h⟩
def Vw.bool : Vw Bool := ⟨1, fun _ a as => as = [.bool a], Nat.one_pos, fun h => by rw [h]; rfl, fun _ h => h⟩
def Vw.pair (v : Vw α) (w : Vw β) : Vw (α × β) := ⟨v.sz + w.sz, fun σ ab as => ∃ as1 as2, as = as1 ++ as2 ∧ v.rel σ ab.1 as1 ∧ w.rel σ ab.2 as2, Nat.add_pos_left v.pos _, fun h => by
  obtain ⟨_, _, rfl, h1, h2⟩ := h
  rw [List.length_append, v.len h1, w.len h2], fun L h => by
  obtain ⟨a, b, e, h1, h2⟩ := h
  exact ⟨a, b, e, v.mono L h1, w.mono L h2⟩⟩

section
variable {v : Vw α} {σ τ : Heap} {xs ys : List α} {x w : AVal}
theorem SlV.mono (h : SlV v σ xs x) (L : Hle σ τ) : SlV v τ xs x := by
  rcases h with h | ⟨l, off, c, md, cs, h1, h2, h3, h4, h5⟩
  · exact .inl h
  · exact .inr ⟨l, off, c, md, cs, h1, Nat.lt_of_lt_of_le h2 L.next, L.get _ _ h2 h3, h4, fun i a ha => v.mono L (h5 i a ha)⟩
theorem SlV.nil (v : Vw α) (σ : Heap) : SlV v σ [] .nils := .inl ⟨rfl, rfl⟩
def Vw.sl (v : Vw α) : Vw (List α) := ⟨1, fun σ xs as => ∃ x, as = [x] ∧ SlV v σ xs x, Nat.one_pos, fun h => by obtain ⟨_, rfl, _⟩ := h; rfl, fun L h => by
  obtain ⟨x, e, h⟩ := h
  exact ⟨x, e, h.mono L⟩⟩
theorem SlV.len {Rt : Type} (h : SlV v σ xs x) (K : Int → Option Rt) : lenV x K = K (xs.length : Int) := by
  rcases h with ⟨rfl, rfl⟩ | ⟨l, off, c, md, cs, rfl, _⟩ <;> rfl
theorem SlV.scal {Rt : Type} (h : SlV v σ xs x) (X : Option Rt) : scal x X = X := by
  rcases h with ⟨rfl, rfl⟩ | ⟨l, off, c, md, cs, rfl, _⟩ <;> rfl
theorem SlV.ix {i : Nat} {a : α} (h : SlV v σ xs x) (hi : xs[i]? = some a) : ∃ p as, At σ p as ∧ v.rel σ a as ∧ ∀ {τ : Heap}, Hle σ τ → ∀ {Rt : Type} (K : AVal → Option Rt), ixA τ x v.sz (i : Int) K = K p := by
  rcases h with ⟨rfl, rfl⟩ | ⟨l, off, c, md, cs, rfl, h2, h3, h4, h5⟩
  · simp at hi
  · have hlt := (List.getElem?_eq_some_iff.1 hi).1
    have hr := h5 i a hi
    have hle : (off + i) * v.sz + v.sz ≤ cs.length := Nat.le_trans (by rw [← Nat.succ_mul]; exact Nat.mul_le_mul_right _ (by omega)) h4
    refine ⟨.ptr l ((off + i) * v.sz), _, ⟨l, (off + i) * v.sz, md, v.sz, cs, rfl, h2, h3, by rw [v.len hr]; exact hle, by rw [v.len hr]⟩, hr, fun {τ} L {_} K => ?_⟩
    simp only [ixA, L.get _ _ h2 h3]
    rw [if_pos ⟨trivial, by omega, by omega⟩, Int.toNat_natCast]
theorem SlV.src (h : SlV v σ ys w) : ∃ cs, (∀ {Rt : Type} (K : List AVal → Nat → Option Rt), srcK σ v.sz w K = K cs ys.length) ∧ cs.length = ys.length * v.sz ∧ ∀ i a, ys[i]? = some a → v.rel σ a ((cs.drop (i * v.sz)).take v.sz) := by
  rcases h with ⟨rfl, rfl⟩ | ⟨l, off, c, md, cs, rfl, h2, h3, h4, h5⟩
  · exact ⟨[], fun K => rfl, by simp, fun i a h => by simp at h⟩
  · refine ⟨(cs.drop (off * v.sz)).take (ys.length * v.sz), fun K => ?_, ?_, fun i a hi => ?_⟩
    · simp only [srcK, h3]; rw [if_pos ⟨trivial, h4⟩]
    · have : (off + ys.length) * v.sz = off * v.sz + ys.length * v.sz := Nat.add_mul ..
      rw [List.length_take, List.length_drop]; omega
    · have hlt := (List.getElem?_eq_some_iff.1 hi).1
      have e : (i + 1) * v.sz ≤ ys.length * v.sz := Nat.mul_le_mul_right _ hlt
      rw [Nat.add_mul, Nat.one_mul] at e
      rw [List.drop_take, List.drop_drop, List.take_take, Nat.min_eq_left (by omega), ← Nat.add_mul]
      exact h5 i a hi

/-- The heap without the object of a slice. -/
def out (σ : Heap) : AVal → Heap
  | .sl l _ _ _ => σ.kill l
  | _ => σ
/-- A slice of one's own, to be appended to. -/
def Acc (v : Vw α) (n0 : Nat) (σ : Heap) (xs : List α) (x : AVal) : Prop := (x = .nils ∧ xs = []) ∨ ∃ l cs, x = .sl l 0 xs.length none ∧ n0 ≤ l ∧ l < σ.next ∧ σ.get l = some (.cells .rw v.sz cs) ∧
  xs.length * v.sz ≤ cs.length ∧ ∀ i a, xs[i]? = some a → v.rel (σ.kill l) a ((cs.drop (i * v.sz)).take v.sz)
theorem Hle.out (σ : Heap) (x : AVal) : Hle (out σ x) σ := by
  cases x <;> first | exact Hle.refl _ | exact Hle.of_kill ..
theorem Hle.outs (h : Hle σ τ) (x : AVal) : Hle (A.out σ x) (A.out τ x) := by
  cases x <;> first | exact h | exact h.killed _
theorem out_next (σ : Heap) (x : AVal) : (out σ x).next = σ.next := by cases x <;> rfl
theorem Acc.nil (v : Vw α) (n0 : Nat) (σ : Heap) : Acc v n0 σ [] .nils := .inl ⟨rfl, rfl⟩
theorem Acc.sl {n0 : Nat} (h : Acc v n0 σ xs x) : SlV v σ xs x := by
  rcases h with h | ⟨l, cs, rfl, _, h2, h3, h4, h5⟩
  · exact .inl h
  · exact .inr ⟨l, 0, none, .rw, cs, rfl, h2, h3, by simpa using h4, fun i a hi => by rw [Nat.zero_add]; exact v.mono (Hle.of_kill _ _) (h5 i a hi)⟩
theorem Acc.mono {n0 : Nat} (h : Acc v n0 σ xs x) (L : Hle σ τ) : Acc v n0 τ xs x := by
  rcases h with h | ⟨l, cs, h1, h2, h3, h4, h5, h6⟩
  · exact .inl h
  · exact .inr ⟨l, cs, h1, h2, Nat.lt_of_lt_of_le h3 L.next, L.get _ _ h3 h4, h5, fun i a hi => v.mono (L.killed l) (h6 i a hi)⟩
theorem Acc.out_le {σ0 : Heap} (h : Acc v σ0.next σ xs x) (L : Hle σ0 σ) : Hle σ0 (out σ x) := by
  rcases h with ⟨rfl, _⟩ | ⟨l, cs, rfl, h2, _⟩
  · exact L
  · exact L.kill h2
theorem Acc.len {Rt : Type} {n0 : Nat} (h : Acc v n0 σ xs x) (K : Int → Option Rt) : lenV x K = K (xs.length : Int) := h.sl.len K

theorem append_rel {v : Vw α} {σ : Heap} {xs ys : List α} {cs ds : List AVal} (hc : cs.length = xs.length * v.sz) (h1 : ∀ i a, xs[i]? = some a → v.rel σ a ((cs.drop (i * v.sz)).take v.sz)) (h2 : ∀ i a, ys[i]? = some a → v.rel σ a ((ds.drop (i * v.sz)).take v.sz)) (es : List AVal)
    (hd : ds.length = ys.length * v.sz) : ∀ i a, (xs ++ ys)[i]? = some a → v.rel σ a (((cs ++ ds ++ es).drop (i * v.sz)).take v.sz) := by
  intro i a hi
  by_cases h : i < xs.length
  · rw [List.getElem?_append_left h] at hi
    have := h1 i a hi
    have e : (i + 1) * v.sz ≤ xs.length * v.sz := Nat.mul_le_mul_right _ h
    rw [Nat.add_mul, Nat.one_mul] at e
    rw [List.append_assoc, List.drop_append_of_le_length (by omega), List.take_append_of_le_length (by simp; omega)]
    exact this
  · rw [List.getElem?_append_right (by omega)] at hi
    have := h2 _ a hi
    have hlt := (List.getElem?_eq_some_iff.1 hi).1
    have e0 : i * v.sz = cs.length + (i - xs.length) * v.sz := by rw [hc, ← Nat.add_mul]; congr 1; omega
    have e : (i - xs.length + 1) * v.sz ≤ ys.length * v.sz := Nat.mul_le_mul_right _ hlt
    rw [Nat.add_mul, Nat.one_mul] at e
    rw [List.append_assoc, e0, ← List.drop_drop, List.drop_left, List.drop_append_of_le_length (by omega), List.take_append_of_le_length (by simp; omega)]
    exact this

theorem Acc.app {σ0 : Heap} {bytes : Nat} (h : Acc v σ0.next σ xs x) (L : Hle σ0 σ) (hs : SlV v (out σ x) ys w) (hb : (xs.length + ys.length) * bytes ≤ 70368744177664) (hb' : xs.length + ys.length ≤ 70368744177664) :
    ∃ x' σ', (∀ {Rt : Type} (K : AVal → Heap → Option Rt), appS σ v.sz bytes x w K = K x' σ') ∧ Hle σ0 σ' ∧ Acc v σ0.next σ' (xs ++ ys) x' ∧ Hle (out σ x) (out σ' x') := by
  obtain ⟨ds, e1, d1, d2⟩ := hs.src
  have e1' : ∀ {Rt : Type} (K : List AVal → Nat → Option Rt), srcK σ v.sz w K = K ds ys.length := by
    rcases hs with ⟨rfl, rfl⟩ | ⟨l, off, c, md, cs, rfl, h2, h3, h4, h5⟩
    · exact fun K => e1 K
    · intro Rt K
      rw [← e1 K]
      simp only [srcK, h3, (Hle.out σ x).get _ _ h2 h3]
  rcases h with ⟨rfl, rfl⟩ | ⟨l, cs, rfl, h2, h3, h4, h5, h6⟩
  · by_cases h0 : ys.length = 0
    · have : ys = [] := List.eq_nil_of_length_eq_zero h0
      subst this
      exact ⟨.nils, σ, fun K => by simp only [appS, e1', appC]; rw [if_pos h0], L, .inl ⟨rfl, rfl⟩, Hle.refl _⟩
    · refine ⟨.sl σ.next 0 ys.length none, σ.new (.cells .rw v.sz ds), fun K => ?_, L.new _, .inr ⟨σ.next, ds, by simp, L.next, Nat.lt_succ_self _, by simp [Heap.new], by simp [d1], fun i a hi => ?_⟩, ?_⟩
      · simp only [appS, e1', appC, newK]
        simp only [List.length_nil, Nat.zero_add] at hb hb'
        rw [if_neg h0, if_pos ⟨hb, hb'⟩]
      · rw [List.nil_append] at hi
        refine v.mono ?_ (d2 i a hi)
        exact ⟨Nat.le_succ _, fun k y hk hg => by simp only [A.out] at hk; simp only [Heap.kill, Heap.new]; rw [if_neg (by omega), if_neg (by omega)]; exact hg⟩
      · exact ⟨Nat.le_succ _, fun k y hk hg => by simp only [A.out] at hk hg ⊢; simp only [Heap.kill, Heap.new]; rw [if_neg (by omega), if_neg (by omega)]; exact hg⟩
  · simp only [A.out] at hs d2 ⊢
    by_cases h0 : ys.length = 0
    · have : ys = [] := List.eq_nil_of_length_eq_zero h0
      subst this
      refine ⟨_, σ, fun K => by simp only [appS, e1', appC, h4]; rw [if_pos ⟨trivial, v.pos, by simpa using h5⟩, if_pos h0], L, .inr ⟨l, cs, by simp, h2, h3, h4, by simpa using h5, fun i a hi => h6 i a (by simpa using hi)⟩, Hle.refl _⟩
    · by_cases hroom : (xs.length + ys.length) * v.sz ≤ cs.length
      · have ea : (xs.length + ys.length) * v.sz = xs.length * v.sz + ys.length * v.sz := Nat.add_mul ..
        refine ⟨.sl l 0 (xs.length + ys.length) none, σ.set l (.cells .rw v.sz (cs.take (xs.length * v.sz) ++ ds ++ cs.drop ((xs.length + ys.length) * v.sz))), fun K => ?_, L.set h2 _, .inr ⟨l, cs.take (xs.length * v.sz) ++ ds ++ cs.drop ((xs.length + ys.length) * v.sz), by simp, h2, h3, by simp [Heap.set], by simp; omega, ?_⟩, Hle.kill_kill_set ..⟩
        · simp only [appS, e1', appC, h4, Nat.zero_add]
          rw [if_pos ⟨trivial, v.pos, h5⟩, if_neg h0, if_pos ⟨hb, hb'⟩]
          simp only [if_true]
          rw [if_pos hroom]
        · refine append_rel (by simp; omega) (fun i a hi => ?_) (fun i a hi => v.mono (Hle.kill_kill_set ..) (d2 i a hi)) (cs.drop ((xs.length + ys.length) * v.sz)) d1
          have hlt := (List.getElem?_eq_some_iff.1 hi).1
          have e : (i + 1) * v.sz ≤ xs.length * v.sz := Nat.mul_le_mul_right _ hlt
          rw [Nat.add_mul, Nat.one_mul] at e
          rw [List.drop_take, List.take_take, Nat.min_eq_left (by omega)]
          exact v.mono (Hle.kill_kill_set ..) (h6 i a hi)
      · refine ⟨.sl σ.next 0 (xs.length + ys.length) none, (σ.kill l).new (.cells .rw v.sz (cs.take (xs.length * v.sz) ++ ds)), fun K => ?_, (L.kill h2).new _, .inr ⟨σ.next, cs.take (xs.length * v.sz) ++ ds, by simp, L.next, Nat.lt_succ_self _, by simp [Heap.new, Heap.kill], by simp [Nat.add_mul]; omega, ?_⟩, ?_⟩
        · simp only [appS, e1', appC, h4, Nat.zero_add]
          rw [if_pos ⟨trivial, v.pos, h5⟩, if_neg h0, if_pos ⟨hb, hb'⟩]
          simp only [if_true]
          rw [if_neg hroom]
          simp only [newK, Nat.zero_mul, List.drop_zero]
          rfl
        · have Lk : Hle (σ.kill l) (((σ.kill l).new (.cells .rw v.sz (cs.take (xs.length * v.sz) ++ ds))).kill σ.next) :=
            ⟨Nat.le_succ _, fun k y hk hg => by
              have hk : k < σ.next := hk
              have hne : k ≠ σ.next := by omega
              have hne2 : k ≠ (σ.kill l).next := hne
              rw [hkill_get, if_neg hne, hnew_get, if_neg (show ¬ k = (σ.kill l).next from hne)]; exact hg⟩
          have := append_rel (v := v) (σ := ((σ.kill l).new (.cells .rw v.sz (cs.take (xs.length * v.sz) ++ ds))).kill σ.next) (xs := xs) (ys := ys) (cs := cs.take (xs.length * v.sz)) (ds := ds) (by simp; omega) (fun i a hi => ?_) (fun i a hi => v.mono Lk (d2 i a hi)) [] d1
          · simpa using this
          · have hlt := (List.getElem?_eq_some_iff.1 hi).1
            have e : (i + 1) * v.sz ≤ xs.length * v.sz := Nat.mul_le_mul_right _ hlt
            rw [Nat.add_mul, Nat.one_mul] at e
            rw [List.drop_take, List.take_take, Nat.min_eq_left (by omega)]
            exact v.mono Lk (h6 i a hi)
        · exact ⟨Nat.le_succ _, fun k y hk hg => by
            have hk : k < σ.next := hk
            have hne : k ≠ σ.next := by omega
            show (((σ.kill l).new _).kill σ.next).get k = _; rw [hkill_get, if_neg hne, hnew_get, if_neg (show ¬ k = (σ.kill l).next from hne)]; exact hg⟩
end

section
variable {v : Vw α} {σ τ : Heap} {xs ys : List α} {x w : AVal} {n0 i : Nat} {a : α}
/-- An element of one's own slice: where it is, and what comes of a store. -/
theorem Acc.at (h : Acc v n0 σ xs x) (hi : xs[i]? = some a) : ∃ l o as, (∀ {Rt : Type} (K : AVal → Option Rt), ixA σ x v.sz (i : Int) K = K (.ptr l o)) ∧ At σ (.ptr l o) as ∧ v.rel (out σ x) a as ∧
    ∀ k vs a', k + vs.length ≤ v.sz → v.rel (out σ x) a' (as.take k ++ vs ++ as.drop (k + vs.length)) →
      ∃ τ, (∀ {Rt : Type} (K : Heap → Option Rt), stC σ (.ptr l (o + k)) vs K = K τ) ∧ Acc v n0 τ (xs.set i a') x ∧ (∀ σ0 : Heap, σ0.next ≤ n0 → Hle σ0 σ → Hle σ0 τ) ∧ Hle (out σ x) (out τ x) ∧ τ.next = σ.next := by
  rcases h with ⟨rfl, rfl⟩ | ⟨l, cs, rfl, h2, h3, h4, h5, h6⟩
  · simp at hi
  · have hlt := (List.getElem?_eq_some_iff.1 hi).1
    have hr := h6 i a hi
    have hln := v.len hr
    have e : (i + 1) * v.sz ≤ xs.length * v.sz := Nat.mul_le_mul_right _ hlt
    rw [Nat.add_mul, Nat.one_mul] at e
    refine ⟨l, i * v.sz, (cs.drop (i * v.sz)).take v.sz, fun K => ?_, ⟨l, i * v.sz, .rw, v.sz, cs, rfl, h3, h4, by rw [hln]; omega, by rw [hln]⟩, hr, fun k vs a' hk hr' => ?_⟩
    · simp only [ixA, h4]
      rw [if_pos ⟨trivial, by omega, by omega⟩, Int.toNat_natCast, Nat.zero_add]
    · let cs' := cs.take (i * v.sz + k) ++ vs ++ cs.drop (i * v.sz + k + vs.length)
      refine ⟨σ.set l (.cells .rw v.sz cs'), fun K => ?_, .inr ⟨l, cs', by simp, h2, h3, by simp [Heap.set], by simp [cs']; omega, fun j b hj => ?_⟩, fun σ0 h0 L => L.set (by omega) _, Hle.kill_kill_set .., rfl⟩
      · simp only [stC, h4]
        rw [if_pos (by omega)]
      · refine v.mono (Hle.kill_kill_set ..) ?_
        rw [List.getElem?_set] at hj
        by_cases hij : i = j
        · subst hij
          rw [if_pos rfl, if_pos hlt] at hj
          cases hj
          have : (cs'.drop (i * v.sz)).take v.sz = ((cs.drop (i * v.sz)).take v.sz).take k ++ vs ++ ((cs.drop (i * v.sz)).take v.sz).drop (k + vs.length) := by
            apply List.ext_getElem? fun q => ?_
            simp only [cs']
            by_cases q1 : q < v.sz
            · rw [List.getElem?_take_of_lt q1, List.getElem?_drop]
              by_cases q2 : q < k
              · rw [List.append_assoc, List.append_assoc, List.getElem?_append_left (by simp; omega), List.getElem?_append_left (by simp; omega), List.getElem?_take_of_lt (by omega), List.getElem?_take_of_lt q2, List.getElem?_take_of_lt q1, List.getElem?_drop]
              · by_cases q3 : q < k + vs.length
                · rw [List.getElem?_append_left (by simp; omega), List.getElem?_append_right (by simp; omega), List.getElem?_append_left (by simp; omega), List.getElem?_append_right (by simp; omega)]
                  congr 1; simp; omega
                · rw [List.getElem?_append_right (by simp; omega), List.getElem?_append_right (by simp; omega), List.getElem?_drop, List.getElem?_drop, List.getElem?_take_of_lt (by simp; omega), List.getElem?_drop]
                  congr 1; simp; omega
            · rw [List.getElem?_eq_none (by simp; omega), List.getElem?_eq_none (by simp; omega)]
          rw [this]; exact hr'
        · rw [if_neg hij] at hj
          have hjl := (List.getElem?_eq_some_iff.1 hj).1
          have e2 : (j + 1) * v.sz ≤ xs.length * v.sz := Nat.mul_le_mul_right _ hjl
          rw [Nat.add_mul, Nat.one_mul] at e2
          have : (cs'.drop (j * v.sz)).take v.sz = (cs.drop (j * v.sz)).take v.sz := by
            apply List.ext_getElem? fun q => ?_
            by_cases q1 : q < v.sz
            · rw [List.getElem?_take_of_lt q1, List.getElem?_take_of_lt q1, List.getElem?_drop, List.getElem?_drop]
              simp only [cs']
              rcases Nat.lt_or_gt_of_ne hij with hlt' | hgt
              · have e3 : (i + 1) * v.sz ≤ j * v.sz := Nat.mul_le_mul_right _ hlt'
                rw [Nat.add_mul, Nat.one_mul] at e3
                rw [List.getElem?_append_right (by simp; omega), List.getElem?_drop]
                congr 1; simp; omega
              · have e3 : (j + 1) * v.sz ≤ i * v.sz := Nat.mul_le_mul_right _ hgt
                rw [Nat.add_mul, Nat.one_mul] at e3
                rw [List.append_assoc, List.getElem?_append_left (by simp; omega), List.getElem?_take_of_lt (by omega)]
            · rw [List.getElem?_eq_none (by simp; omega), List.getElem?_eq_none (by simp; omega)]
          rw [this]; exact h6 j b hj

/-- Data without places. -/
def Vw.Flat (v : Vw α) : Prop := ∀ σ τ a as, v.rel σ a as → v.rel τ a as
theorem Vw.int_flat : Vw.int.Flat := fun _ _ _ _ h => h
theorem Vw.bool_flat : Vw.bool.Flat := fun _ _ _ _ h => h
theorem SlV.flat {σ τ : Heap} (hf : v.Flat) (h : SlV v σ xs x) (hn : σ.next ≤ τ.next) (hg : ∀ l off len c, x = .sl l off len c → τ.get l = σ.get l) : SlV v τ xs x := by
  rcases h with h | ⟨l, off, c, md, cs, rfl, h2, h3, h4, h5⟩
  · exact .inl h
  · exact .inr ⟨l, off, c, md, cs, rfl, by omega, by rw [hg _ _ _ _ rfl]; exact h3, h4, fun i a ha => hf _ _ _ _ (h5 i a ha)⟩
/-- A newer slice of plain data is there without an older object. -/
theorem Acc.sl_out {v : Vw β} {ys : List β} {y : AVal} {w : Vw α} (hf : v.Flat) (h : Acc v n0 τ ys y) (hx : Acc w i σ xs x) (hn : σ.next ≤ n0) : SlV v (out τ x) ys y := by
  rcases hx with ⟨rfl, _⟩ | ⟨l, cs, rfl, h1, h2, _⟩
  · exact h.sl
  · refine h.sl.flat hf (Nat.le_refl _) fun l' off len c e => ?_
    rcases h with ⟨rfl, _⟩ | ⟨k, ds, rfl, k1, _⟩
    · cases e
    · cases e
      show (τ.kill l).get l' = _
      rw [hkill_get, if_neg (by omega)]
end

/-- A loop that counts. -/
theorem loopW_inv {X Y : Type} {f : X → Heap → Option ((X ⊕ Y) × Heap)} (n : Nat) (Inv : Nat → X → Heap → Prop) (Q : Y → Heap → Prop)
    (step : ∀ i x σ, i < n → Inv i x σ → (∃ x' σ', f x σ = some (.inl x', σ') ∧ Inv (i + 1) x' σ') ∨ ∃ y σ', f x σ = some (.inr y, σ') ∧ Q y σ')
    (stop : ∀ x σ, Inv n x σ → ∃ y σ', f x σ = some (.inr y, σ') ∧ Q y σ') {x : X} {σ : Heap} (h : Inv 0 x σ) : ∃ y σ', loopW f x σ = some (y, σ') ∧ Q y σ' := by
  have : ∀ k i x σ, i + k = n → Inv i x σ → ∃ y σ', loopW f x σ = some (y, σ') ∧ Q y σ' := by
    intro k
    induction k with
    | zero =>
      intro i x σ hi h
      obtain rfl : i = n := by omega
      obtain ⟨y, σ', h1, h2⟩ := stop x σ h
      exact ⟨y, σ', loopW_stop h1, h2⟩
    | succ k ih =>
      intro i x σ hi h
      rcases step i x σ (by omega) h with ⟨x', σ', h1, h2⟩ | ⟨y, σ', h1, h2⟩
      · obtain ⟨y, σ2, h3, h4⟩ := ih (i + 1) x' σ' (by omega) h2
        exact ⟨y, σ2, loopW_next h1 h3, h4⟩
      · exact ⟨y, σ', loopW_stop h1, h2⟩
  exact this n 0 x σ (by omega) h
theorem loopP_inv {X Y : Type} {f : X → Option (X ⊕ Y)} (n : Nat) (Inv : Nat → X → Prop) (Q : Y → Prop)
    (step : ∀ i x, i < n → Inv i x → (∃ x', f x = some (.inl x') ∧ Inv (i + 1) x') ∨ ∃ y, f x = some (.inr y) ∧ Q y)
    (stop : ∀ x, Inv n x → ∃ y, f x = some (.inr y) ∧ Q y) {x : X} (h : Inv 0 x) : ∃ y, loopP f x = some y ∧ Q y := by
  have : ∀ k i x, i + k = n → Inv i x → ∃ y, loopP f x = some y ∧ Q y := by
    intro k
    induction k with
    | zero =>
      intro i x hi h
      obtain rfl : i = n := by omega
      obtain ⟨y, h1, h2⟩ := stop x h
      exact ⟨y, loopP_stop h1, h2⟩
    | succ k ih =>
      intro i x hi h
      rcases step i x (by omega) h with ⟨x', h1, h2⟩ | ⟨y, h1, h2⟩
      · obtain ⟨y, h3, h4⟩ := ih (i + 1) x' (by omega) h2
        exact ⟨y, loopP_next h1 h3, h4⟩
      · exact ⟨y, loopP_stop h1, h2⟩
  exact this n 0 x (by omega) h
end Go.Proofs.YtgneblbblihaoaaDoor.A
