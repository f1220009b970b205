/- Parts of the proof, one behind another. -/
import Derived.Test.YtekehmgfedmflaaDoorX2
import Derived.Test.YtekehmgfedmflaaDoorX0
import Derived.Test.YtekehmgfedmflaaDoorX8
import Derived.Test.YtekehmgfedmflaaDoorX6
set_option linter.all false
/- Views of abstract heaps: lists behind slices; what was there stays. -/
namespace Go.Proofs.YtekehmgfedmflaaDoor.A
open Go
theorem wrapS {n : Int} (h0 : -9223372036854775808 ≤ n) (h1 : n < 9223372036854775808) : IntKind.i64.wrap n = n := by
  rw [IntKind.wrap_i64]; omega

theorem hnew_get (σ : Heap) (o : AObj) (k : Nat) : (σ.new o).get k = if k = σ.next then some o else σ.get k := rfl
theorem hkill_get (σ : Heap) (l k : Nat) : (σ.kill l).get k = if k = l then none else σ.get k := rfl
theorem hset_get (σ : Heap) (l k : Nat) (o : AObj) : (σ.set l o).get k = if k = l then some o else σ.get k := rfl
/-- What was there is there, unchanged. -/
structure Hle (σ τ : Heap) : Prop where
  next : σ.next ≤ τ.next
  get : ∀ l o, l < σ.next → σ.get l = some o → τ.get l = some o
section
variable {σ τ υ : Heap} {l : Nat} {o : AObj}
theorem Hle.refl (σ : Heap) : Hle σ σ := ⟨Nat.le_refl _, fun _ _ _ h => h⟩
theorem Hle.trans (h : Hle σ τ) (k : Hle τ υ) : Hle σ υ := ⟨Nat.le_trans h.next k.next, fun l o hl hg => k.get l o (Nat.lt_of_lt_of_le hl h.next) (h.get l o hl hg)⟩
theorem Hle.new (h : Hle σ τ) (o : AObj) : Hle σ (τ.new o) := ⟨Nat.le_succ_of_le h.next, fun l x hl hg => by
  have := h.next
  simp only [Heap.new]; rw [if_neg (by omega)]; exact h.get l x hl hg⟩
theorem Hle.set (h : Hle σ τ) (hl : σ.next ≤ l) (o : AObj) : Hle σ (τ.set l o) := ⟨h.next, fun k x hk hg => by
  simp only [Heap.set]; rw [if_neg (by omega)]; exact h.get k x hk hg⟩
theorem Hle.kill (h : Hle σ τ) (hl : σ.next ≤ l) : Hle σ (τ.kill l) := ⟨h.next, fun k x hk hg => by
  simp only [Heap.kill]; rw [if_neg (by omega)]; exact h.get k x hk hg⟩
theorem Hle.of_kill (σ : Heap) (l : Nat) : Hle (σ.kill l) σ := ⟨Nat.le_refl _, fun k x _ hg => by
  simp only [Heap.kill] at hg; split at hg
  · cases hg
  · exact hg⟩
theorem Hle.kill_set (σ : Heap) (l : Nat) (o : AObj) : Hle (σ.kill l) (σ.set l o) := ⟨Nat.le_refl _, fun k x _ hg => by
  simp only [Heap.kill] at hg; split at hg
  · cases hg
  · rename_i h; simp only [Heap.set]; rw [if_neg h]; exact hg⟩
theorem Hle.killed (h : Hle σ τ) (l : Nat) : Hle (σ.kill l) (τ.kill l) := ⟨h.next, fun k x hk hg => by
  simp only [Heap.kill] at hg ⊢; split at hg
  · cases hg
  · rename_i h1; rw [if_neg h1]; exact h.get k x hk hg⟩
theorem Hle.kill_kill_set (σ : Heap) (l : Nat) (o : AObj) : Hle (σ.kill l) ((σ.set l o).kill l) := ⟨Nat.le_refl _, fun k x _ hg => by
  simp only [Heap.kill] at hg ⊢; split at hg
  · cases hg
  · rename_i h; simp only [Heap.set, if_neg h]; exact hg⟩
end
section
variable {σ τ : Heap} {p : AVal} {as0 : List AVal} {l o k n : Nat} {a : AVal}
/-- Cells at a pointer. -/
def At (σ : Heap) (p : AVal) (as0 : List AVal) : Prop := ∃ l o md sz cs, p = .ptr l o ∧ l < σ.next ∧ σ.get l = some (.cells md sz cs) ∧ o + as0.length ≤ cs.length ∧ (cs.drop o).take as0.length = as0
theorem At.mono (h : At σ p as0) (L : Hle σ τ) : At τ p as0 := by
  obtain ⟨l, o, md, sz, cs, h1, h2, h3, h4, h5⟩ := h
  exact ⟨l, o, md, sz, cs, h1, Nat.lt_of_lt_of_le h2 L.next, L.get _ _ h2 h3, h4, h5⟩
theorem At.new (σ : Heap) (sz : Nat) (cs : List AVal) : At (σ.new (.cells .rw sz cs)) (.ptr σ.next 0) cs :=
  ⟨_, 0, .rw, sz, cs, rfl, Nat.lt_succ_self _, by simp [Heap.new], by simp, by simp⟩
theorem At.of_get {md : Md} {sz : Nat} (hl : l < σ.next) (h : σ.get l = some (.cells md sz as0)) : At σ (.ptr l 0) as0 := ⟨_, 0, md, sz, as0, rfl, hl, h, by simp, by simp⟩
theorem At.drop (h : At σ (.ptr l o) as0) (k : Nat) (hk : k ≤ as0.length) : At σ (.ptr l (o + k)) (as0.drop k) := by
  obtain ⟨l', o', md, sz, cs, h1, h2, h3, h4, h5⟩ := h
  cases h1
  refine ⟨l, o + k, md, sz, cs, rfl, h2, h3, by simp; omega, ?_⟩
  conv => rhs; rw [← h5]
  rw [List.drop_take, List.drop_drop, List.length_drop]
theorem At.take (h : At σ p as0) (k : Nat) (hk : k ≤ as0.length) : At σ p (as0.take k) := by
  obtain ⟨l', o', md, sz, cs, h1, h2, h3, h4, h5⟩ := h
  refine ⟨l', o', md, sz, cs, h1, h2, h3, by simp; omega, ?_⟩
  conv => rhs; rw [← h5]
  rw [List.take_take, List.length_take]
theorem At.fld (h : At σ p as0) (k : Nat) (hk : k ≤ as0.length) : ∃ q, (∀ {Rt : Type} (K : AVal → Option Rt), fld p k K = K q) ∧ At σ q (as0.drop k) := by
  obtain ⟨l, o, md, sz, cs, rfl, h2⟩ := id h
  exact ⟨.ptr l (o + k), fun K => rfl, h.drop k hk⟩
theorem At.cell {l o : Nat} (h : At σ (.ptr l o) as0) (hk : as0[k]? = some a) : σ.cell l (o + k) = some a := by
  obtain ⟨l', o', md, sz, cs, h1, h2, h3, h4, h5⟩ := h
  cases h1
  have hlt := (List.getElem?_eq_some_iff.1 hk).1
  have : ((cs.drop o).take as0.length)[k]? = some a := by rw [h5, hk]
  rw [List.getElem?_take_of_lt hlt, List.getElem?_drop] at this
  simp only [Heap.cell, h3, this]
theorem At.ld {Rt : Type} {kd : Kd} (h : At σ p (a :: as0)) (K : kd.ty → Option Rt) : ld σ p kd K = asK kd a K := by
  obtain ⟨l, o, _, _, _, rfl, _⟩ := id h
  have := h.cell (k := 0) (a := a) rfl
  rw [Nat.add_zero] at this
  simp only [A.ld, this]
theorem At.ld0 {Rt : Type} {kd : Kd} (h : At σ (.ptr l 0) as0) (hk : as0[k]? = some a) (K : kd.ty → Option Rt) : A.ld σ (.ptr l k) kd K = asK kd a K := by
  have := h.cell hk
  rw [Nat.zero_add] at this
  simp only [A.ld, this]
theorem At.ldG {Rt : Type} (h : At σ p as0) (hn : n = as0.length) (K : AVal → Option Rt) : ldG σ p n K = K (.agg as0) := by
  obtain ⟨l, o, md, sz, cs, rfl, h2, h3, h4, h5⟩ := h
  subst hn
  simp only [A.ldG, h3, if_pos h4, h5]
end
/-- How a datum stands in cells. -/
structure Vw (α : Type) where
  sz : Nat
  rel : Heap → α → List AVal → Prop
  pos : 0 < sz
  len : ∀ {σ a as0}, rel σ a as0 → as0.length = sz
  mono : ∀ {σ τ a as0}, Hle σ τ → rel σ a as0 → rel τ a as0

variable {α β : Type}
/-- A slice of data. -/
def SlV (v : Vw α) (σ : Heap) (xs : List α) (x : AVal) : Prop := (x = .nils ∧ xs = []) ∨ ∃ l off c md cs, x = .sl l off xs.length c ∧ l < σ.next ∧ σ.get l = some (.cells md v.sz cs) ∧
  (off + xs.length) * v.sz ≤ cs.length ∧ ∀ i a, xs[i]? = some a → v.rel σ a ((cs.drop ((off + i) * v.sz)).take v.sz)
def Vw.int : Vw Int := ⟨1, fun _ a as0 => as0 = [.int .i64 a], Nat.one_pos, fun h => by rw [h]; rfl, fun _ h => h⟩
def Vw.bool : Vw Bool := ⟨1, fun _ a as0 => as0 = [.bool a], Nat.one_pos, fun h => by rw [h]; rfl, fun _ h => h⟩
section
variable {v : Vw α} {σ τ : Heap} {xs ys : List α} {x w : AVal}
theorem SlV.mono (h : SlV v σ xs x) (L : Hle σ τ) : SlV v τ xs x := by
  rcases h with h | ⟨l, off, c, md, cs, h1, h2, h3, h4, h5⟩
  · exact .inl h
  · exact .inr ⟨l, off, c, md, cs, h1, Nat.lt_of_lt_of_le h2 L.next, L.get _ _ h2 h3, h4, fun i a ha => v.mono L (h5 i a ha)⟩
theorem SlV.nil (v : Vw α) (σ : Heap) : SlV v σ [] .nils := .inl ⟨rfl, rfl⟩
def Vw.sl (v : Vw α) : Vw (List α) := ⟨1, fun σ xs as0 => ∃ x, as0 = [x] ∧ SlV v σ xs x, Nat.one_pos, fun h => by obtain ⟨_, rfl, _⟩ := h; rfl, fun L h => by
  obtain ⟨x, e, h⟩ := h
  exact ⟨x, e, h.mono L⟩⟩
theorem SlV.len {Rt : Type} (h : SlV v σ xs x) (K : Int → Option Rt) : lenV x K = K (xs.length : Int) := by
  rcases h with ⟨rfl, rfl⟩ | ⟨l, off, c, md, cs, rfl, _⟩ <;> rfl
theorem SlV.scal {Rt : Type} (h : SlV v σ xs x) (X : Option Rt) : scal x X = X := by
  rcases h with ⟨rfl, rfl⟩ | ⟨l, off, c, md, cs, rfl, _⟩ <;> rfl
theorem SlV.ix {i : Nat} {a : α} (h : SlV v σ xs x) (hi : xs[i]? = some a) : ∃ p as0, At σ p as0 ∧ v.rel σ a as0 ∧ ∀ {τ : Heap}, Hle σ τ → ∀ {Rt : Type} (K : AVal → Option Rt), ixA τ x v.sz (i : Int) K = K p := by
  rcases h with ⟨rfl, rfl⟩ | ⟨l, off, c, md, cs, rfl, h2, h3, h4, h5⟩
  · simp at hi
  · have hlt := (List.getElem?_eq_some_iff.1 hi).1
    have hr := h5 i a hi
    have hle : (off + i) * v.sz + v.sz ≤ cs.length := Nat.le_trans (by rw [← Nat.succ_mul]; exact Nat.mul_le_mul_right _ (by omega)) h4
    refine ⟨.ptr l ((off + i) * v.sz), _, ⟨l, (off + i) * v.sz, md, v.sz, cs, rfl, h2, h3, by rw [v.len hr]; exact hle, by rw [v.len hr]⟩, hr, fun {τ} L {_} K => ?_⟩
    simp only [ixA, L.get _ _ h2 h3]
    rw [if_pos ⟨trivial, by omega, by omega⟩, Int.toNat_natCast]
theorem SlV.src (h : SlV v σ ys w) : ∃ cs, (∀ {Rt : Type} (K : List AVal → Nat → Option Rt), srcK σ v.sz w K = K cs ys.length) ∧ cs.length = ys.length * v.sz ∧ ∀ i a, ys[i]? = some a → v.rel σ a ((cs.drop (i * v.sz)).take v.sz) := by
  rcases h with ⟨rfl, rfl⟩ | ⟨l, off, c, md, cs, rfl, h2, h3, h4, h5⟩
  · exact ⟨[], fun K => rfl, by simp, fun i a h => by simp at h⟩
  · refine ⟨(cs.drop (off * v.sz)).take (ys.length * v.sz), fun K => ?_, ?_, fun i a hi => ?_⟩
    · simp only [srcK, h3]; rw [if_pos ⟨trivial, h4⟩]
    · have : (off + ys.length) * v.sz = off * v.sz + ys.length * v.sz := Nat.add_mul ..
      rw [List.length_take, List.length_drop]; omega
    · have hlt := (List.getElem?_eq_some_iff.1 hi).1
      have e : (i + 1) * v.sz ≤ ys.length * v.sz := Nat.mul_le_mul_right _ hlt
      rw [Nat.add_mul, Nat.one_mul] at e
      rw [List.drop_take, List.drop_drop, List.take_take, Nat.min_eq_left (by omega), ← Nat.add_mul]
      exact h5 i a hi

/-- The heap without the object of a slice. -/
def out (σ : Heap) : AVal → Heap
  | .sl l _ _ _ => σ.kill l
  | _ => σ
/-- A slice of one's own, to be appended to. -/
def Acc (v : Vw α) (n0 : Nat) (σ : Heap) (xs : List α) (x : AVal) : Prop := (x = .nils ∧ xs = []) ∨ ∃ l cs, x = .sl l 0 xs.length none ∧ n0 ≤ l ∧ l < σ.next ∧ σ.get l = some (.cells .rw v.sz cs) ∧
  xs.length * v.sz ≤ cs.length ∧ ∀ i a, xs[i]? = some a → v.rel (σ.kill l) a ((cs.drop (i * v.sz)).take v.sz)
theorem Hle.out (σ : Heap) (x : AVal) : Hle (out σ x) σ := by
  cases x <;> first | exact Hle.refl _ | exact Hle.of_kill ..
theorem Hle.outs (h : Hle σ τ) (x : AVal) : Hle (A.out σ x) (A.out τ x) := by
  cases x <;> first | exact h | exact h.killed _
theorem out_next (σ : Heap) (x : AVal) : (out σ x).next = σ.next := by cases x <;> rfl
theorem Acc.nil (v : Vw α) (n0 : Nat) (σ : Heap) : Acc v n0 σ [] .nils := .inl ⟨rfl, rfl⟩
theorem Acc.sl {n0 : Nat} (h : Acc v n0 σ xs x) : SlV v σ xs x := by
  rcases h with h | ⟨l, cs, rfl, _, h2, h3, h4, h5⟩
  · exact .inl h
  · exact .inr ⟨l, 0, none, .rw, cs, rfl, h2, h3, by simpa using h4, fun i a hi => by rw [Nat.zero_add]; exact v.mono (Hle.of_kill _ _) (h5 i a hi)⟩
theorem Acc.mono {n0 : Nat} (h : Acc v n0 σ xs x) (L : Hle σ τ) : Acc v n0 τ xs x := by
  rcases h with h | ⟨l, cs, h1, h2, h3, h4, h5, h6⟩
  · exact .inl h
  · exact .inr ⟨l, cs, h1, h2, Nat.lt_of_lt_of_le h3 L.next, L.get _ _ h3 h4, h5, fun i a hi => v.mono (L.killed l) (h6 i a hi)⟩
theorem Acc.out_le {σ0 : Heap} (h : Acc v σ0.next σ xs x) (L : Hle σ0 σ) : Hle σ0 (out σ x) := by
  rcases h with ⟨rfl, _⟩ | ⟨l, cs, rfl, h2, _⟩
  · exact L
  · exact L.kill h2
theorem Acc.len {Rt : Type} {n0 : Nat} (h : Acc v n0 σ xs x) (K : Int → Option Rt) : lenV x K = K (xs.length : Int) := h.sl.len K

theorem append_rel {v : Vw α} {σ : Heap} {xs ys : List α} {cs ds : List AVal} (hc : cs.length = xs.length * v.sz) (h1 : ∀ i a, xs[i]? = some a → v.rel σ a ((cs.drop (i * v.sz)).take v.sz)) (h2 : ∀ i a, ys[i]? = some a → v.rel σ a ((ds.drop (i * v.sz)).take v.sz)) (es : List AVal)
    (hd : ds.length = ys.length * v.sz) : ∀ i a, (xs ++ ys)[i]? = some a → v.rel σ a (((cs ++ ds ++ es).drop (i * v.sz)).take v.sz) := by
  intro i a hi
  by_cases h : i < xs.length
  · rw [List.getElem?_append_left h] at hi
    have := h1 i a hi
    have e : (i + 1) * v.sz ≤ xs.length * v.sz := Nat.mul_le_mul_right _ h
    rw [Nat.add_mul, Nat.one_mul] at e
    rw [List.append_assoc, List.drop_append_of_le_length (by omega), List.take_append_of_le_length (by simp; omega)]
    exact this
  · rw [List.getElem?_append_right (by omega)] at hi
    have := h2 _ a hi
    have hlt := (List.getElem?_eq_some_iff.1 hi).1
    have e0 : i * v.sz = cs.length + (i - xs.length) * v.sz := by rw [hc, ← Nat.add_mul]; congr 1; omega
    have e : (i - xs.length + 1) * v.sz ≤ ys.length * v.sz := Nat.mul_le_mul_right _ hlt
    rw [Nat.add_mul, Nat.one_mul] at e
    rw [List.append_assoc, e0, ← List.drop_drop, List.drop_left, List.drop_append_of_le_length (by omega), List.take_append_of_le_length (by simp; omega)]
    exact this

theorem Acc.app {σ0 : Heap} {bytes : Nat} (h : Acc v σ0.next σ xs x) (L : Hle σ0 σ) (hs : SlV v (out σ x) ys w) (hb : (xs.length + ys.length) * bytes ≤ 70368744177664) (hb' : xs.length + ys.length ≤ 70368744177664) :
    ∃ x' σ', (∀ {Rt : Type} (K : AVal → Heap → Option Rt), appS σ v.sz bytes x w K = K x' σ') ∧ Hle σ0 σ' ∧ Acc v σ0.next σ' (xs ++ ys) x' ∧ Hle (out σ x) (out σ' x') := by
  obtain ⟨ds, e1, d1, d2⟩ := hs.src
  have e1' : ∀ {Rt : Type} (K : List AVal → Nat → Option Rt), srcK σ v.sz w K = K ds ys.length := by
    rcases hs with ⟨rfl, rfl⟩ | ⟨l, off, c, md, cs, rfl, h2, h3, h4, h5⟩
    · exact fun K => e1 K
    · intro Rt K
      rw [← e1 K]
      simp only [srcK, h3, (Hle.out σ x).get _ _ h2 h3]
  rcases h with ⟨rfl, rfl⟩ | ⟨l, cs, rfl, h2, h3, h4, h5, h6⟩
  · by_cases h0 : ys.length = 0
    · have : ys = [] := List.eq_nil_of_length_eq_zero h0
      subst this
      exact ⟨.nils, σ, fun K => by simp only [appS, e1', appC]; rw [if_pos h0], L, .inl ⟨rfl, rfl⟩, Hle.refl _⟩
    · refine ⟨.sl σ.next 0 ys.length none, σ.new (.cells .rw v.sz ds), fun K => ?_, L.new _, .inr ⟨σ.next, ds, by simp, L.next, Nat.lt_succ_self _, by simp [Heap.new], by simp [d1], fun i a hi => ?_⟩, ?_⟩
      · simp only [appS, e1', appC, newK]
        simp only [List.length_nil, Nat.zero_add] at hb hb'
        rw [if_neg h0, if_pos ⟨hb, hb'⟩]
      · rw [List.nil_append] at hi
        refine v.mono ?_ (d2 i a hi)
        exact ⟨Nat.le_succ _, fun k y hk hg => by simp only [A.out] at hk; simp only [Heap.kill, Heap.new]; rw [if_neg (by omega), if_neg (by omega)]; exact hg⟩
      · exact ⟨Nat.le_succ _, fun k y hk hg => by simp only [A.out] at hk hg ⊢; simp only [Heap.kill, Heap.new]; rw [if_neg (by omega), if_neg (by omega)]; exact hg⟩
  · simp only [A.out] at hs d2 ⊢
    by_cases h0 : ys.length = 0
    · have : ys = [] := List.eq_nil_of_length_eq_zero h0
      subst this
      refine ⟨_, σ, fun K => by simp only [appS, e1', appC, h4]; rw [if_pos ⟨trivial, v.pos, by simpa using h5⟩, if_pos h0], L, .inr ⟨l, cs, by simp, h2, h3, h4, by simpa using h5, fun i a hi => h6 i a (by simpa using hi)⟩, Hle.refl _⟩
    · by_cases hroom : (xs.length + ys.length) * v.sz ≤ cs.length
      · have ea : (xs.length + ys.length) * v.sz = xs.length * v.sz + ys.length * v.sz := Nat.add_mul ..
        refine ⟨.sl l 0 (xs.length + ys.length) none, σ.set l (.cells .rw v.sz (cs.take (xs.length * v.sz) ++ ds ++ cs.drop ((xs.length + ys.length) * v.sz))), fun K => ?_, L.set h2 _, .inr ⟨l, cs.take (xs.length * v.sz) ++ ds ++ cs.drop ((xs.length + ys.length) * v.sz), by simp, h2, h3, by simp [Heap.set], by simp; omega, ?_⟩, Hle.kill_kill_set ..⟩
        · simp only [appS, e1', appC, h4, Nat.zero_add]
          rw [if_pos ⟨trivial, v.pos, h5⟩, if_neg h0, if_pos ⟨hb, hb'⟩]
          simp only [if_true]
          rw [if_pos hroom]
        · refine append_rel (by simp; omega) (fun i a hi => ?_) (fun i a hi => v.mono (Hle.kill_kill_set ..) (d2 i a hi)) (cs.drop ((xs.length + ys.length) * v.sz)) d1
          have hlt := (List.getElem?_eq_some_iff.1 hi).1
          have e : (i + 1) * v.sz ≤ xs.length * v.sz := Nat.mul_le_mul_right _ hlt
          rw [Nat.add_mul, Nat.one_mul] at e
          rw [List.drop_take, List.take_take, Nat.min_eq_left (by omega)]
          exact v.mono (Hle.kill_kill_set ..) (h6 i a hi)
      · refine ⟨.sl σ.next 0 (xs.length + ys.length) none, (σ.kill l).new (.cells .rw v.sz (cs.take (xs.length * v.sz) ++ ds)), fun K => ?_, (L.kill h2).new _, .inr ⟨σ.next, cs.take (xs.length * v.sz) ++ ds, by simp, L.next, Nat.lt_succ_self _, by simp [Heap.new, Heap.kill], by simp [Nat.add_mul]; omega, ?_⟩, ?_⟩
        · simp only [appS, e1', appC, h4, Nat.zero_add]
          rw [if_pos ⟨trivial, v.pos, h5⟩, if_neg h0, if_pos ⟨hb, hb'⟩]
          simp only [if_true]
          rw [if_neg hroom]
          simp only [newK, Nat.zero_mul, List.drop_zero]
          rfl
        · have Lk : Hle (σ.kill l) (((σ.kill l).new (.cells .rw v.sz (cs.take (xs.length * v.sz) ++ ds))).kill σ.next) :=
            ⟨Nat.le_succ _, fun k y hk hg => by
              have hk : k < σ.next := hk
              have hne : k ≠ σ.next := by omega
              have hne2 : k ≠ (σ.kill l).next := hne
              rw [hkill_get, if_neg hne, hnew_get, if_neg (show ¬ k = (σ.kill l).next from hne)]; exact hg⟩
          have := append_rel (v := v) (σ := ((σ.kill l).new (.cells .rw v.sz (cs.take (xs.length * v.sz) ++ ds))).kill σ.next) (xs := xs) (ys := ys) (cs := cs.take (xs.length * v.sz)) (ds := ds) (by simp; omega) (fun i a hi => ?_) (fun i a hi => v.mono Lk (d2 i a hi)) [] d1
          · simpa using this
          · have hlt := (List.getElem?_eq_some_iff.1 hi).1
            have e : (i + 1) * v.sz ≤ xs.length * v.sz := Nat.mul_le_mul_right _ hlt
            rw [Nat.add_mul, Nat.one_mul] at e
            rw [List.drop_take, List.take_take, Nat.min_eq_left (by omega)]
            exact v.mono Lk (h6 i a hi)
        · exact ⟨Nat.le_succ _, fun k y hk hg => by
            have hk : k < σ.next := hk
            have hne : k ≠ σ.next := by omega
            show (((σ.kill l).new _).kill σ.next).get k = _; rw [hkill_get, if_neg hne, hnew_get, if_neg (show ¬ k = (σ.kill l).next from hne)]; exact hg⟩
end
section
variable {v : Vw α} {σ τ : Heap} {xs ys : List α} {x w : AVal} {n0 i : Nat} {a : α}
/-- An element of one's own slice: where it is, and what comes of a store. -/
theorem Acc.at (h : Acc v n0 σ xs x) (hi : xs[i]? = some a) : ∃ l o as0, (∀ {Rt : Type} (K : AVal → Option Rt), ixA σ x v.sz (i : Int) K = K (.ptr l o)) ∧ At σ (.ptr l o) as0 ∧ v.rel (out σ x) a as0 ∧
    ∀ k vs a', k + vs.length ≤ v.sz → v.rel (out σ x) a' (as0.take k ++ vs ++ as0.drop (k + vs.length)) →
      ∃ τ, (∀ {Rt : Type} (K : Heap → Option Rt), stC σ (.ptr l (o + k)) vs K = K τ) ∧ Acc v n0 τ (xs.set i a') x ∧ (∀ σ0 : Heap, σ0.next ≤ n0 → Hle σ0 σ → Hle σ0 τ) ∧ Hle (out σ x) (out τ x) ∧ τ.next = σ.next := by
  rcases h with ⟨rfl, rfl⟩ | ⟨l, cs, rfl, h2, h3, h4, h5, h6⟩
  · simp at hi
  · have hlt := (List.getElem?_eq_some_iff.1 hi).1
    have hr := h6 i a hi
    have hln := v.len hr
    have e : (i + 1) * v.sz ≤ xs.length * v.sz := Nat.mul_le_mul_right _ hlt
    rw [Nat.add_mul, Nat.one_mul] at e
    refine ⟨l, i * v.sz, (cs.drop (i * v.sz)).take v.sz, fun K => ?_, ⟨l, i * v.sz, .rw, v.sz, cs, rfl, h3, h4, by rw [hln]; omega, by rw [hln]⟩, hr, fun k vs a' hk hr' => ?_⟩
    · simp only [ixA, h4]
      rw [if_pos ⟨trivial, by omega, by omega⟩, Int.toNat_natCast, Nat.zero_add]
    · let cs' := cs.take (i * v.sz + k) ++ vs ++ cs.drop (i * v.sz + k + vs.length)
      refine ⟨σ.set l (.cells .rw v.sz cs'), fun K => ?_, .inr ⟨l, cs', by simp, h2, h3, by simp [Heap.set], by simp [cs']; omega, fun j b hj => ?_⟩, fun σ0 h0 L => L.set (by omega) _, Hle.kill_kill_set .., rfl⟩
      · simp only [stC, h4]
        rw [if_pos (by omega)]
      · refine v.mono (Hle.kill_kill_set ..) ?_
        rw [List.getElem?_set] at hj
        by_cases hij : i = j
        · subst hij
          rw [if_pos rfl, if_pos hlt] at hj
          cases hj
          have : (cs'.drop (i * v.sz)).take v.sz = ((cs.drop (i * v.sz)).take v.sz).take k ++ vs ++ ((cs.drop (i * v.sz)).take v.sz).drop (k + vs.length) := by
            apply List.ext_getElem? fun q => ?_
            simp only [cs']
            by_cases q1 : q < v.sz
            · rw [List.getElem?_take_of_lt q1, List.getElem?_drop]
              by_cases q2 : q < k
              · rw [List.append_assoc, List.append_assoc, List.getElem?_append_left (by simp; omega), List.getElem?_append_left (by simp; omega), List.getElem?_take_of_lt (by omega), List.getElem?_take_of_lt q2, List.getElem?_take_of_lt q1, List.getElem?_drop]
              · by_cases q3 : q < k + vs.length
                · rw [List.getElem?_append_left (by simp; omega), List.getElem?_append_right (by simp; omega), List.getElem?_append_left (by simp; omega), List.getElem?_append_right (by simp; omega)]
                  congr 1; simp; omega
                · rw [List.getElem?_append_right (by simp; omega), List.getElem?_append_right (by simp; omega), List.getElem?_drop, List.getElem?_drop, List.getElem?_take_of_lt (by simp; omega), List.getElem?_drop]
                  congr 1; simp; omega
            · rw [List.getElem?_eq_none (by simp; omega), List.getElem?_eq_none (by simp; omega)]
          rw [this]; exact hr'
        · rw [if_neg hij] at hj
          have hjl := (List.getElem?_eq_some_iff.1 hj).1
          have e2 : (j + 1) * v.sz ≤ xs.length * v.sz := Nat.mul_le_mul_right _ hjl
          rw [Nat.add_mul, Nat.one_mul] at e2
          have : (cs'.drop (j * v.sz)).take v.sz = (cs.drop (j * v.sz)).take v.sz := by
            apply List.ext_getElem? fun q => ?_
            by_cases q1 : q < v.sz
            · rw [List.getElem?_take_of_lt q1, List.getElem?_take_of_lt q1, List.getElem?_drop, List.getElem?_drop]
              simp only [cs']
              rcases Nat.lt_or_gt_of_ne hij with hlt' | hgt
              · have e3 : (i + 1) * v.sz ≤ j * v.sz := Nat.mul_le_mul_right _ hlt'
                rw [Nat.add_mul, Nat.one_mul] at e3
                rw [List.getElem?_append_right (by simp; omega), List.getElem?_drop]
                congr 1; simp; omega
              · have e3 : (j + 1) * v.sz ≤ i * v.sz := Nat.mul_le_mul_right _ hgt
                rw [Nat.add_mul, Nat.one_mul] at e3
                rw [List.append_assoc, List.getElem?_append_left (by simp; omega), List.getElem?_take_of_lt (by omega)]
            · rw [List.getElem?_eq_none (by simp; omega), List.getElem?_eq_none (by simp; omega)]
          rw [this]; exact h6 j b hj

/-- Data without places. -/
def Vw.Flat (v : Vw α) : Prop := ∀ σ τ a as0, v.rel σ a as0 → v.rel τ a as0
theorem Vw.int_flat : Vw.int.Flat := fun _ _ _ _ h => h
theorem SlV.flat {σ τ : Heap} (hf : v.Flat) (h : SlV v σ xs x) (hn : σ.next ≤ τ.next) (hg : ∀ l off len c, x = .sl l off len c → τ.get l = σ.get l) : SlV v τ xs x := by
  rcases h with h | ⟨l, off, c, md, cs, rfl, h2, h3, h4, h5⟩
  · exact .inl h
  · exact .inr ⟨l, off, c, md, cs, rfl, by omega, by rw [hg _ _ _ _ rfl]; exact h3, h4, fun i a ha => hf _ _ _ _ (h5 i a ha)⟩
end
theorem loopP_inv {X Y : Type} {f : X → Option (X ⊕ Y)} (n : Nat) (Inv : Nat → X → Prop) (Q : Y → Prop)
    (step : ∀ i x, i < n → Inv i x → (∃ x', f x = some (.inl x') ∧ Inv (i + 1) x') ∨ ∃ y, f x = some (.inr y) ∧ Q y)
    (stop : ∀ x, Inv n x → ∃ y, f x = some (.inr y) ∧ Q y) {x : X} (h : Inv 0 x) : ∃ y, loopP f x = some y ∧ Q y := by
  have : ∀ k i x, i + k = n → Inv i x → ∃ y, loopP f x = some y ∧ Q y := by
    intro k
    induction k with
    | zero =>
      intro i x hi h
      obtain rfl : i = n := by omega
      obtain ⟨y, h1, h2⟩ := stop x h
      exact ⟨y, loopP_stop h1, h2⟩
    | succ k ih =>
      intro i x hi h
      rcases step i x (by omega) h with ⟨x', h1, h2⟩ | ⟨y, h1, h2⟩
      · obtain ⟨y, h3, h4⟩ := ih (i + 1) x' (by omega) h2
        exact ⟨y, loopP_next h1 h3, h4⟩
      · exact ⟨y, loopP_stop h1, h2⟩
  exact this n 0 x (by omega) h
end Go.Proofs.YtekehmgfedmflaaDoor.A

/- Arguments, as0 views. -/
namespace Go.Proofs.YtekehmgfedmflaaDoor.A
open Go Go.RowKit
variable {P : Program} {α β : Type}
theorem slV_of {size : Nat} {rel : (Nat → Option AObj) → α → List AVal → Prop} (v : Vw β) (φ : α → β) (hsz : v.sz = size) {σ : Heap} (hn : ∀ l o, σ.get l = some o → l < σ.next)
    (hr : ∀ a us, rel σ.get a us → v.rel σ (φ a) us) {xs : List α} {us : List AVal} (h : sliceRel size rel σ.get xs us) : ∃ x, us = [x] ∧ SlV v σ (xs.map φ) x := by
  subst hsz
  rcases h with ⟨rfl, rfl⟩ | ⟨l, md, ass, rfl, h2, h3, h4, h5, _⟩
  · exact ⟨_, rfl, SlV.nil _ _⟩
  · refine ⟨_, rfl, .inr ⟨l, 0, none, md, ass.flatten, by simp, hn _ _ h2, h2, by rw [flatten_len _ _ h4, List.length_map, h3, Nat.zero_add]; exact Nat.le_refl _, fun i b hb => ?_⟩⟩
    simp only [List.getElem?_map, Option.map_eq_some_iff] at hb
    obtain ⟨a, ha, rfl⟩ := hb
    have hi := (List.getElem?_eq_some_iff.1 ha).1
    obtain ⟨u, hu⟩ : ∃ u, ass[i]? = some u := ⟨_, List.getElem?_eq_getElem (by omega)⟩
    have hul := h4 u (List.mem_of_getElem? hu)
    have : (ass.flatten.drop ((0 + i) * v.sz)).take v.sz = u := by
      apply List.ext_getElem? fun q => ?_
      rw [Nat.zero_add]
      by_cases hq : q < v.sz
      · rw [List.getElem?_take_of_lt hq, List.getElem?_drop, flatten_get v.sz ass i q u h4 hu hq]
      · rw [List.getElem?_eq_none (by simp; omega), List.getElem?_eq_none (by omega)]
    rw [this]
    exact hr a u (h5 i a u ha hu)
/-- What holds of the elements' cells holds of each. -/
theorem sliceRel_mem {size : Nat} {rel : (Nat → Option AObj) → α → List AVal → Prop} {g : Nat → Option AObj} {xs : List α} {us : List AVal} (h : sliceRel size rel g xs us) : ∀ a ∈ xs, ∃ u, rel g a u := by
  rcases h with ⟨_, rfl⟩ | ⟨l, md, ass, _, _, h3, _, h5, _⟩
  · intro a ha; cases ha
  · intro a ha
    obtain ⟨i, hi, e⟩ := List.getElem_of_mem ha
    exact ⟨_, h5 i a _ (by rw [List.getElem?_eq_getElem hi, e]) (List.getElem?_eq_getElem (by omega))⟩
theorem sliceRel_len {size : Nat} {rel : (Nat → Option AObj) → α → List AVal → Prop} {g : Nat → Option AObj} {xs : List α} {us : List AVal} (h : sliceRel size rel g xs us) : xs.length ≤ 140737488351232 := by
  rcases h with ⟨_, rfl⟩ | ⟨l, md, ass, _, _, _, _, _, h6⟩
  · simp
  · exact h6
end Go.Proofs.YtekehmgfedmflaaDoor.A

/- The seat's own numbers: types, variables, functions. -/
namespace Go.Proofs.YtekehmgfedmflaaDoor.A
open Go
noncomputable abbrev prg : Program := Tryd.prog
abbrev tErr : TypeId := 140
abbrev tAt : TypeId := 96
abbrev gBlocks : Nat := 4
abbrev gProof : Nat := 5
abbrev gRange : Nat := 0
abbrev gLimit : Nat := 1
abbrev gText : Nat := 2
abbrev gBudget : Nat := 3
abbrev gCert : Nat := 6
def okErr (P : Program) (t : TypeId) : Bool := match tiOf P t with
  | some ti => (match ti.tk with
    | .ptr e => (match tiOf P e with
      | some ei => !(Nat.beq ei.size 0) && ti.cmp
      | none => false)
    | _ => false)
  | none => false
theorem ti_err : ∃ ti e ei, tiOf prg tErr = some ti ∧ ti.tk = .ptr e ∧ tiOf prg e = some ei ∧ Nat.beq ei.size 0 = false ∧ ti.cmp = true := by
  have h : okErr prg tErr = true := by kernel_rfl
  unfold okErr at h
  split at h
  · rename_i ti h1
    split at h
    · rename_i e h2
      split at h
      · rename_i ei h3
        simp only [Bool.and_eq_true, Bool.not_eq_true'] at h
        exact ⟨ti, e, ei, h1, h2, h3, h.1, h.2⟩
      · cases h
    · cases h
  · cases h
end Go.Proofs.YtekehmgfedmflaaDoor.A

/- Appending one element. -/
namespace Go.Proofs.YtekehmgfedmflaaDoor.A
open Go
variable {α β : Type}
theorem Acc.loc {v : Vw α} {n0 : Nat} {σ : Heap} {xs : List α} {x : AVal} (h : Acc v n0 σ xs x) : ∀ l off len c, x = .sl l off len c → n0 ≤ l ∧ l < σ.next := fun l off len c e => by
  rcases h with ⟨rfl, _⟩ | ⟨l', cs, rfl, h1, h2, _⟩
  · cases e
  · cases e; exact ⟨h1, h2⟩
theorem one_src {v : Vw α} {σ : Heap} {x : AVal} {cs : List AVal} {a : α} (hx : ∀ l off len c, x = .sl l off len c → l < σ.next) (hr : v.rel (out σ x) a cs) :
    SlV v (out (σ.new (.cells .rw v.sz cs)) x) [a] (.sl σ.next 0 1 none) := by
  have L := ((Hle.refl σ).new (.cells .rw v.sz cs)).outs x
  refine .inr ⟨σ.next, 0, none, .rw, cs, rfl, by rw [out_next]; exact Nat.lt_succ_self _, ?_, by simp [v.len hr], fun j b hb => ?_⟩
  · cases hy : x with
    | sl l off len c =>
      have := hx _ _ _ _ hy
      show ((σ.new _).kill l).get _ = _
      rw [hkill_get, if_neg (by omega), hnew_get, if_pos rfl]
    | _ => simp only [out, hnew_get, if_true]
  · cases j with
    | zero =>
      simp at hb; subst hb
      have : (cs.drop ((0 + 0) * v.sz)).take v.sz = cs := by rw [Nat.add_zero, Nat.zero_mul, List.drop_zero]; exact List.take_of_length_le (by rw [v.len hr]; exact Nat.le_refl _)
      rw [this]; exact v.mono L hr
    | succ j => simp at hb
theorem Acc.push {v : Vw α} {σ0 σ : Heap} {xs : List α} {x : AVal} {cs : List AVal} {a : α} {bytes : Nat} (h : Acc v σ0.next σ xs x) (L : Hle σ0 σ) (hr : v.rel (out σ x) a cs) (hb : (xs.length + 1) * bytes ≤ 70368744177664) (hb' : xs.length + 1 ≤ 70368744177664) :
    ∃ x' σ', (∀ {Rt : Type} (K : AVal → Heap → Option Rt), appS (σ.new (.cells .rw v.sz cs)) v.sz bytes x (.sl σ.next 0 1 none) K = K x' σ') ∧ Hle σ0 σ' ∧ Acc v σ0.next σ' (xs ++ [a]) x' ∧ Hle (out σ x) (out σ' x') := by
  have L1 := (Hle.refl σ).new (.cells .rw v.sz cs)
  obtain ⟨x', σ', e1, e2, e3, e4⟩ := (h.mono L1).app (bytes := bytes) (L.trans L1) (one_src (fun l off len c e => (h.loc l off len c e).2) hr) (by rw [List.length_singleton]; exact hb) (by rw [List.length_singleton]; exact hb')
  exact ⟨x', σ', e1, e2, e3, (L1.outs x).trans e4⟩
/-- An empty slice with room. -/
theorem mk0 {v : Vw α} {σ : Heap} {n bytes : Nat} {z : List AVal} (hb : n * bytes ≤ 70368744177664) (hb' : n ≤ 70368744177664) : ∃ x τ, (∀ {Rt : Type} (K : AVal → Heap → Option Rt), mkS σ v.sz bytes z 0 (n : Int) K = K x τ) ∧ Hle σ τ ∧ Acc v σ.next τ [] x := by
  refine ⟨.sl σ.next 0 0 none, σ.new (.cells .rw v.sz (rep n z)), fun K => ?_, (Hle.refl σ).new _, .inr ⟨σ.next, rep n z, rfl, Nat.le_refl _, Nat.lt_succ_self _, by rw [hnew_get, if_pos rfl], by simp, fun i a hi => by simp at hi⟩⟩
  have h1 : (n : Int) * (bytes : Int) ≤ 70368744177664 := by
    have : ((n * bytes : Nat) : Int) ≤ 70368744177664 := by omega
    rwa [Int.natCast_mul] at this
  simp only [mkS, newK]
  rw [if_pos ⟨by omega, by omega, h1, by omega⟩, Int.toNat_natCast, Int.toNat_zero]
end Go.Proofs.YtekehmgfedmflaaDoor.A

/- A calculus for the shallow functions: what a run comes to. -/
namespace Go.Proofs.YtekehmgfedmflaaDoor.A
open Go
/-! Short names. -/
set_option linter.all false
def q1 := @decide_eq_true_eq
def q2 := @decide_eq_false_iff_not
def q3 := @Bool.not_eq_true'
def q4 := @Bool.not_eq_false'
def q5 := @beq_iff_eq
def q6 := @beq_eq_false_iff_ne
def q7 := @bne_iff_ne
def q8 := @bne_eq_false_iff_eq
def q9 := @Bool.not_eq_true
def q10 := @Bool.not_eq_false
def q11 := @Bool.not_true
def q12 := @Bool.not_false
def q13 := @Bool.true_eq_false
def q14 := @Bool.false_eq_true
def q15 := @Int.not_lt
def q16 := @Int.not_le
def q17 := @gt_iff_lt
def q18 := @ge_iff_le
def q19 := @ne_eq
def q20 := @Int.toNat_natCast
def q21 := @not_true_eq_false
def q22 := @not_false_eq_true
def q23 := @Bool.and_eq_true
def q24 := @Bool.or_eq_true
def q25 := @Bool.and_eq_false_iff
def q26 := @Bool.or_eq_false_iff
def q27 := @Option.isNone_none
def q28 := @Option.isNone_some
def q29 := @Option.isSome_none
def q30 := @Option.isSome_some

/-- A run comes to a result as0 Q says. -/
def W {R : Type} (o : Option R) (Q : R → Prop) : Prop := ∃ r, o = some r ∧ Q r

section
variable {R S : Type}
theorem W.ret {r : R} {Q : R → Prop} (h : Q r) : W (some r) Q := ⟨r, rfl, h⟩
theorem W.bind {o : Option S} {K : S → Option R} {Q : R → Prop} (h : W o fun r => W (K r) Q) : W (o.bind K) Q := by
  obtain ⟨r, rfl, h⟩ := h; exact h
theorem W.mono {o : Option R} {P Q : R → Prop} (h : W o P) (k : ∀ r, P r → Q r) : W o Q := by
  obtain ⟨r, e, h⟩ := h; exact ⟨r, e, k r h⟩
theorem W.call {o : Option S} {K : S → Option R} {P : S → Prop} {Q : R → Prop} (h : W o P) (k : ∀ r, P r → W (K r) Q) : W (o.bind K) Q := by
  obtain ⟨r, rfl, h⟩ := h; exact k r h
theorem W.eqn {o : Option S} {r : S} {K : S → Option R} {Q : R → Prop} (h : o = some r) (k : W (K r) Q) : W (o.bind K) Q := by
  rw [h]; exact k
theorem W.to {o o' : Option R} {Q : R → Prop} (h : o = o') (k : W o' Q) : W o Q := h ▸ k
theorem W.cnd {b : Bool} {x y : Option R} {Q : R → Prop} (h : b = true → W x Q) (k : b = false → W y Q) : W (cond b x y) Q := by
  cases b
  · exact k rfl
  · exact h rfl
theorem W.condT {b : Bool} {x y : Option R} {Q : R → Prop} (h : b = true) (k : W x Q) : W (cond b x y) Q := by subst h; exact k
theorem W.condF {b : Bool} {x y : Option R} {Q : R → Prop} (h : b = false) (k : W y Q) : W (cond b x y) Q := by subst h; exact k
theorem W.chk {p : Prop} {o : Option R} {Q : R → Prop} (h : p) (k : W o Q) : W (chk p o) Q := by
  simp only [A.chk, if_pos h]; exact k
theorem W.out {o : Option R} {Q : R → Prop} (h : W o Q) : ∃ r, o = some r ∧ Q r := h
end
/-! ### Loops -/
/-- What a round may come to. -/
@[reducible] def LQ {X Y : Type} (A : X → Heap → Prop) (B : Y × Heap → Prop) : (X ⊕ Y) × Heap → Prop := fun r => match r.1 with
  | .inl x => A x r.2
  | .inr y => B (y, r.2)
@[reducible] def LP {X Y : Type} (A : X → Prop) (B : Y → Prop) : X ⊕ Y → Prop
  | .inl x => A x
  | .inr y => B y
section
variable {X Y : Type}
theorem W.next {A : X → Heap → Prop} {B : Y × Heap → Prop} {x : X} {σ : Heap} (h : A x σ) : W (some (.inl x, σ)) (LQ A B) := ⟨_, rfl, h⟩
theorem W.stop {A : X → Heap → Prop} {B : Y × Heap → Prop} {y : Y} {σ : Heap} (h : B (y, σ)) : W (some (.inr y, σ)) (LQ A B) := ⟨_, rfl, h⟩
theorem W.nextP {A : X → Prop} {B : Y → Prop} {x : X} (h : A x) : W (some (.inl x)) (LP A B) := ⟨_, rfl, h⟩
theorem W.stopP {A : X → Prop} {B : Y → Prop} {y : Y} (h : B y) : W (some (.inr y)) (LP A B) := ⟨_, rfl, h⟩
/-- A loop that counts to n. -/
theorem W.loop {f : X → Heap → Option ((X ⊕ Y) × Heap)} {Q : Y × Heap → Prop} (n : Nat) (Inv : Nat → X → Heap → Prop) {x : X} {σ : Heap} (h0 : Inv 0 x σ)
    (step : ∀ i x σ, i ≤ n → Inv i x σ → W (f x σ) (LQ (fun x' σ' => i < n ∧ Inv (i + 1) x' σ') Q)) : W (loopW f x σ) Q := by
  have : ∀ k i x σ, i + k = n → Inv i x σ → W (loopW f x σ) Q := by
    intro k
    induction k with
    | zero =>
      intro i x σ hi h
      obtain ⟨⟨r, τ⟩, e, hr⟩ := step i x σ (by omega) h
      cases r with
      | inl x' => exact absurd hr.1 (by omega)
      | inr y => exact ⟨_, loopW_stop e, hr⟩
    | succ k ih =>
      intro i x σ hi h
      obtain ⟨⟨r, τ⟩, e, hr⟩ := step i x σ (by omega) h
      cases r with
      | inl x' =>
        obtain ⟨z, h3, h4⟩ := ih (i + 1) x' τ (by omega) hr.2
        exact ⟨z, loopW_next e h3, h4⟩
      | inr y => exact ⟨_, loopW_stop e, hr⟩
  exact this n 0 x σ (by omega) h0
theorem W.loopP {f : X → Option (X ⊕ Y)} {Q : Y → Prop} (n : Nat) (Inv : Nat → X → Prop) {x : X} (h0 : Inv 0 x)
    (step : ∀ i x, i ≤ n → Inv i x → W (f x) (LP (fun x' => i < n ∧ Inv (i + 1) x') Q)) : W (A.loopP f x) Q := by
  have : ∀ k i x, i + k = n → Inv i x → W (A.loopP f x) Q := by
    intro k
    induction k with
    | zero =>
      intro i x hi h
      obtain ⟨r, e, hr⟩ := step i x (by omega) h
      cases r with
      | inl x' => exact absurd hr.1 (by omega)
      | inr y => exact ⟨_, loopP_stop e, hr⟩
    | succ k ih =>
      intro i x hi h
      obtain ⟨r, e, hr⟩ := step i x (by omega) h
      cases r with
      | inl x' =>
        obtain ⟨z, h3, h4⟩ := ih (i + 1) x' (by omega) hr.2
        exact ⟨z, loopP_next e h3, h4⟩
      | inr y => exact ⟨_, loopP_stop e, hr⟩
  exact this n 0 x (by omega) h0
end
/-! ### Reads -/
section
variable {R α : Type} {v : Vw α} {σ : Heap} {xs : List α} {x p : AVal} {as0 : List AVal} {Q : R → Prop}
theorem W.len (h : SlV v σ xs x) {K : Int → Option R} (k : W (K (xs.length : Int)) Q) : W (lenV x K) Q := W.to (h.len K) k
theorem W.lenN {K : Int → Option R} (k : W (K 0) Q) : W (lenV .nils K) Q := k
theorem W.scalS (h : SlV v σ xs x) {X : Option R} (k : W X Q) : W (scal x X) Q := W.to (h.scal X) k
theorem fld_fld (p : AVal) (j k : Nat) (K : AVal → Option R) : fld p j (fun q => fld q k K) = fld p (j + k) K := by
  cases p <;> simp [fld, Nat.add_assoc]
theorem W.fldfld {j k : Nat} {K : AVal → Option R} (h : W (fld p (j + k) K) Q) : W (fld p j fun q => fld q k K) Q := W.to (fld_fld p j k K) h
/-- A field, read. -/
theorem W.fldld (h : At σ p as0) {k : Nat} {a : AVal} (hk : as0[k]? = some a) {kd : Kd} {K : kd.ty → Option R} (c : W (asK kd a K) Q) : W (fld p k fun q => ld σ q kd K) Q := by
  obtain ⟨l, o, md, sz, cs, rfl, _⟩ := id h
  have := h.cell hk
  refine W.to ?_ c
  simp only [fld, ld, this]
theorem W.ldp {l o : Nat} (h : At σ (.ptr l o) as0) {k : Nat} {a : AVal} (hk : as0[k]? = some a) {kd : Kd} {K : kd.ty → Option R} (c : W (asK kd a K) Q) : W (ld σ (.ptr l (o + k)) kd K) Q := by
  have := h.cell hk
  refine W.to ?_ c
  simp only [ld, this]
theorem W.ld0 (h : At σ p (as0)) {a : AVal} (hk : as0[0]? = some a) {kd : Kd} {K : kd.ty → Option R} (c : W (asK kd a K) Q) : W (ld σ p kd K) Q := by
  obtain ⟨l, o, md, sz, cs, rfl, _⟩ := id h
  have := h.cell hk
  rw [Nat.add_zero] at this
  refine W.to ?_ c
  simp only [ld, this]
theorem W.ldl {l : Nat} (h : At σ (.ptr l 0) as0) {k : Nat} {a : AVal} (hk : as0[k]? = some a) {kd : Kd} {K : kd.ty → Option R} (c : W (asK kd a K) Q) : W (ld σ (.ptr l k) kd K) Q :=
  W.to (h.ld0 hk K) c
theorem W.ldGG (h : At σ p as0) {n : Nat} (hn : as0.length = n) {K : AVal → Option R} (c : W (K (.agg as0)) Q) : W (ldG σ p n K) Q := W.to (h.ldG hn.symm K) c
theorem W.ldGo {l : Nat} (h : At σ (.ptr l 0) as0) {k n : Nat} (hk : k + n ≤ as0.length) {K : AVal → Option R} (c : W (K (.agg ((as0.drop k).take n))) Q) : W (ldG σ (.ptr l k) n K) Q := by
  have h2 := (h.drop k (by omega)).take n (by simp; omega)
  rw [Nat.zero_add] at h2
  exact W.ldGG h2 (by simp; omega) c
theorem W.aggK {n : Nat} {cs : List AVal} (h : cs.length = n) {K : List AVal → Option R} (c : W (K cs) Q) : W (A.aggK (.agg cs) n K) Q := by
  simp only [A.aggK, if_pos h]; exact c
/-- An element of a slice, in general. -/
theorem W.ix (h : SlV v σ xs x) {i : Int} (h0 : 0 ≤ i) (h1 : i < xs.length) {K : AVal → Option R} (c : ∀ p as0 a, xs[i.toNat]? = some a → At σ p as0 → v.rel σ a as0 → W (K p) Q) {sz : Nat} (hs : sz = v.sz := by rfl) : W (ixA σ x sz i K) Q := by
  subst hs
  obtain ⟨a, ha⟩ : ∃ a, xs[i.toNat]? = some a := ⟨_, List.getElem?_eq_getElem (by omega)⟩
  obtain ⟨p, as0, h2, h3, h4⟩ := h.ix ha
  refine W.to ?_ (c p as0 a ha h2 h3)
  have := h4 (Hle.refl σ) K
  rwa [Int.toNat_of_nonneg h0] at this
/-- An element that is known. -/
theorem W.ixk (h : SlV v σ xs x) {i : Int} {a : α} (ha : xs[i.toNat]? = some a) (h0 : 0 ≤ i) {K : AVal → Option R} (c : ∀ p as0, At σ p as0 → v.rel σ a as0 → W (K p) Q) {sz : Nat} (hs : sz = v.sz := by rfl) : W (ixA σ x sz i K) Q := by
  subst hs
  obtain ⟨p, as0, h2, h3, h4⟩ := h.ix ha
  refine W.to ?_ (c p as0 h2 h3)
  have := h4 (Hle.refl σ) K
  rwa [Int.toNat_of_nonneg h0] at this
end
section
variable {R : Type} {σ : Heap} {x : AVal} {Q : R → Prop}
theorem W.ixI {xs : List Int} (h : SlV .int σ xs x) {i : Int} {a : Int} (ha : xs[i.toNat]? = some a) (h0 : 0 ≤ i) {K : Int → Option R} (c : W (K a) Q) : W (ixA σ x 1 i fun p => ld σ p (.I .i64) K) Q :=
  W.ixk h ha h0 (fun p as0 hp hr => by
    have hr : as0 = [.int .i64 a] := hr
    subst hr
    exact W.ld0 hp rfl c)
theorem W.ixIn {xs : List Int} (h : SlV .int σ xs x) {i : Int} (h0 : 0 ≤ i) (h1 : i < xs.length) {K : Int → Option R} (c : ∀ a, xs[i.toNat]? = some a → W (K a) Q) : W (ixA σ x 1 i fun p => ld σ p (.I .i64) K) Q := by
  obtain ⟨a, ha⟩ : ∃ a, xs[i.toNat]? = some a := ⟨_, List.getElem?_eq_getElem (by omega)⟩
  exact W.ixI h ha h0 (c a ha)
theorem W.ixB {xs : List Bool} (h : SlV .bool σ xs x) {i : Int} {a : Bool} (ha : xs[i.toNat]? = some a) (h0 : 0 ≤ i) {K : Bool → Option R} (c : W (K a) Q) : W (ixA σ x 1 i fun p => ld σ p .B K) Q :=
  W.ixk h ha h0 (fun p as0 hp hr => by
    have hr : as0 = [.bool a] := hr
    subst hr
    exact W.ld0 hp rfl c)
end
/-! ### Objects of one's own -/
theorem Hle.mono {σ τ υ : Heap} (h : Hle σ τ) (k : Hle τ υ) : Hle σ υ := h.trans k
/-- An object of one's own, and its cells. -/
structure Loc (σ : Heap) (l : Nat) (cs : List AVal) : Prop where
  lt : l < σ.next
  get : ∃ sz, σ.get l = some (.cells .rw sz cs)
section
variable {σ τ : Heap} {l k : Nat} {cs : List AVal}
theorem Loc.mono (h : Loc σ l cs) (L : Hle σ τ) : Loc τ l cs := ⟨Nat.lt_of_lt_of_le h.lt L.next, h.get.elim fun sz e => ⟨sz, L.get _ _ h.lt e⟩⟩
theorem Loc.kill (h : Loc σ l cs) (hk : l ≠ k) : Loc (σ.kill k) l cs := ⟨h.lt, h.get.elim fun sz e => ⟨sz, by rw [hkill_get, if_neg hk]; exact e⟩⟩
theorem Loc.at (h : Loc σ l cs) : At σ (.ptr l 0) cs := h.get.elim fun _ e => At.of_get h.lt e
theorem Hle.ofk (L : Hle σ τ) (hk : σ.next ≤ k) {υ : Heap} (M : Hle (τ.kill k) υ) : Hle σ υ := (L.kill hk).trans M
theorem At.kill {p : AVal} {as0 : List AVal} (h : At σ p as0) (hk : ∀ o, p ≠ .ptr k o) : At (σ.kill k) p as0 := by
  obtain ⟨l, o, md, sz, cs, rfl, h2, h3, h4⟩ := h
  exact ⟨l, o, md, sz, cs, rfl, h2, by rw [hkill_get, if_neg (fun e => hk o (by rw [e]))]; exact h3, h4⟩
end
section
variable {R : Type} {σ τ : Heap} {Q : R → Prop}
/-- A new object. -/
theorem W.new {sz : Nat} {cs : List AVal} {K : Nat → Heap → Option R} (c : ∀ l τ, l = σ.next → Hle σ τ → Loc τ l cs → τ.next = σ.next + 1 → W (K l τ) Q) : W (newK σ sz cs K) Q :=
  c _ _ rfl ((Hle.refl σ).new _) ⟨Nat.lt_succ_self _, sz, by rw [hnew_get, if_pos rfl]⟩ rfl
theorem W.newg {sz : Nat} {cs : List AVal} {K : Nat → Heap → Option R} (c : ∀ l τ, l = σ.next → Hle σ τ → At τ (.ptr l 0) cs → τ.get l = some (.cells .rw sz cs) → τ.next = σ.next + 1 → W (K l τ) Q) : W (newK σ sz cs K) Q :=
  c _ _ rfl ((Hle.refl σ).new _) (At.new _ _ _) (by rw [hnew_get, if_pos rfl]) rfl
theorem W.st {l o : Nat} {cs vs : List AVal} (h : Loc σ l cs) (hv : o + vs.length ≤ cs.length) {K : Heap → Option R} (c : ∀ τ, Hle (σ.kill l) τ → τ.next = σ.next → Loc τ l (cs.take o ++ vs ++ cs.drop (o + vs.length)) → W (K τ) Q) : W (stC σ (.ptr l o) vs K) Q := by
  obtain ⟨sz, e⟩ := h.get
  refine W.to (o' := K (σ.set l (.cells .rw sz (cs.take o ++ vs ++ cs.drop (o + vs.length))))) ?_ (c _ (Hle.kill_set ..) rfl ⟨h.lt, sz, by rw [hset_get, if_pos rfl]⟩)
  simp only [stC, e, if_pos hv]
/-- All cells of an object. -/
theorem W.st0 {l : Nat} {cs vs : List AVal} (h : Loc σ l cs) (hv : vs.length = cs.length) {K : Heap → Option R} (c : ∀ τ, Hle (σ.kill l) τ → τ.next = σ.next → Loc τ l vs → W (K τ) Q) : W (stC σ (.ptr l 0) vs K) Q := by
  refine W.st h (by omega) fun τ a b d => c τ a b ?_
  have : cs.take 0 ++ vs ++ cs.drop (0 + vs.length) = vs := by simp [hv]
  rwa [this] at d
theorem W.ldL {l o : Nat} {cs : List AVal} (h : Loc σ l cs) {a : AVal} (hk : cs[o]? = some a) {kd : Kd} {K : kd.ty → Option R} (c : W (asK kd a K) Q) : W (ld σ (.ptr l o) kd K) Q := W.ldl h.at hk c
theorem W.ldGL {l o n : Nat} {cs : List AVal} (h : Loc σ l cs) (hk : o + n ≤ cs.length) {K : AVal → Option R} (c : W (K (.agg ((cs.drop o).take n))) Q) : W (ldG σ (.ptr l o) n K) Q := W.ldGo h.at hk c
theorem W.fldp {l o k : Nat} {K : AVal → Option R} (c : W (K (.ptr l (o + k))) Q) : W (fld (.ptr l o) k K) Q := c
theorem W.asI {k : IntKind} {n : Int} {K : Int → Option R} (c : W (K n) Q) : W (asK (.I k) (.int k n) K) Q := by
  refine W.to ?_ c; simp [asK]
theorem W.asB {n : Bool} {K : Bool → Option R} (c : W (K n) Q) : W (asK .B (.bool n) K) Q := c
theorem W.asV {n : AVal} {K : AVal → Option R} (c : W (K n) Q) : W (asK .V n K) Q := c
theorem W.asS {n : ByteArray} {K : ByteArray → Option R} (c : W (K n) Q) : W (asK .S (.str n) K) Q := c
theorem W.ixIc {x : AVal} {xs : List Int} {i : Nat} {a : Int} (h : SlV .int σ xs x) (ha : xs[i]? = some a) {K : Int → Option R} (c : W (K a) Q) : W (ixA σ x 1 (i : Int) fun p => ld σ p (.I .i64) K) Q := W.ixI h (by simpa using ha) (by omega) c
theorem W.ixBc {x : AVal} {xs : List Bool} {i : Nat} {a : Bool} (h : SlV .bool σ xs x) (ha : xs[i]? = some a) {K : Bool → Option R} (c : W (K a) Q) : W (ixA σ x 1 (i : Int) fun p => ld σ p .B K) Q := W.ixB h (by simpa using ha) (by omega) c
theorem W.ixc {α : Type} {v : Vw α} {x : AVal} {xs : List α} {i : Nat} (h : SlV v σ xs x) (hi : i < xs.length) {K : AVal → Option R} (c : ∀ p us a, xs[i]? = some a → At σ p us → v.rel σ a us → W (K p) Q) {sz : Nat} (hs : sz = v.sz := by rfl) : W (ixA σ x sz (i : Int) K) Q := W.ix h (by omega) (by omega) (by simpa using c) hs
/-- Elements, as0 they were known before. -/
theorem W.ixL {α : Type} {v : Vw α} {τ : Heap} {x : AVal} {xs : List α} {i : Nat} (h : SlV v σ xs x) (L : Hle σ τ) (hi : i < xs.length) {K : AVal → Option R} (c : ∀ p us a, xs[i]? = some a → At σ p us → v.rel σ a us → W (K p) Q) {sz : Nat} (hs : sz = v.sz := by rfl) : W (ixA τ x sz (i : Int) K) Q := by
  subst hs
  obtain ⟨a, ha⟩ : ∃ a, xs[i]? = some a := ⟨_, List.getElem?_eq_getElem hi⟩
  obtain ⟨p, as0, h2, h3, h4⟩ := h.ix ha
  exact W.to (h4 L K) (c p as0 a ha h2 h3)
theorem W.ixkL {α : Type} {v : Vw α} {τ : Heap} {x : AVal} {xs : List α} {i : Nat} {a : α} (h : SlV v σ xs x) (L : Hle σ τ) (ha : xs[i]? = some a) {K : AVal → Option R} (c : ∀ p as0, At σ p as0 → v.rel σ a as0 → W (K p) Q) {sz : Nat} (hs : sz = v.sz := by rfl) : W (ixA τ x sz (i : Int) K) Q := by
  subst hs
  obtain ⟨p, as0, h2, h3, h4⟩ := h.ix ha
  exact W.to (h4 L K) (c p as0 h2 h3)
theorem W.ixLS {α : Type} {v : Vw α} {τ : Heap} {x : AVal} {xs : List (List α)} {i : Nat} (h : SlV v.sl σ xs x) (L : Hle σ τ) (hi : i < xs.length) {K : AVal → Option R} (c : ∀ a y, xs[i]? = some a → SlV v σ a y → W (K y) Q) : W (ixA τ x 1 (i : Int) fun p => ld τ p .V K) Q :=
  W.ixL h L hi fun p us a ha hp hr => by
    obtain ⟨y, rfl, hy⟩ := hr
    exact W.ld0 (hp.mono L) rfl (c a y ha hy)
theorem W.ixkLS {α : Type} {v : Vw α} {τ : Heap} {x : AVal} {xs : List (List α)} {i : Nat} {a : List α} (h : SlV v.sl σ xs x) (L : Hle σ τ) (ha : xs[i]? = some a) {K : AVal → Option R} (c : ∀ y, SlV v σ a y → W (K y) Q) : W (ixA τ x 1 (i : Int) fun p => ld τ p .V K) Q :=
  W.ixkL h L ha fun p us hp hr => by
    obtain ⟨y, rfl, hy⟩ := hr
    exact W.ld0 (hp.mono L) rfl (c y hy)
theorem W.putC {cs vs : List AVal} {off n : Nat} {K : List AVal → Option R} (h : Nat.ble (off + n) cs.length = true) (c : W (K (cs.take off ++ vs ++ cs.drop (off + n))) Q) : W (A.putC cs off n vs K) Q := by
  simp only [A.putC, if_pos (Nat.le_of_ble_eq_true h)]; exact c
theorem W.scI {k : IntKind} {n : Int} {X : Option R} (c : W X Q) : W (scal (.int k n) X) Q := c
theorem W.scB {n : Bool} {X : Option R} (c : W X Q) : W (scal (.bool n) X) Q := c
theorem W.scP {l o : Nat} {X : Option R} (c : W X Q) : W (scal (.ptr l o) X) Q := c
theorem W.scM {l : Nat} {X : Option R} (c : W X Q) : W (scal (.map l) X) Q := c
theorem W.scN {X : Option R} (c : W X Q) : W (scal .nils X) Q := c
theorem W.scNp {X : Option R} (c : W X Q) : W (scal .nilp X) Q := c
theorem W.scNi {X : Option R} (c : W X Q) : W (scal .nili X) Q := c
theorem W.scIf {t : TypeId} {v : AVal} {X : Option R} (c : W X Q) : W (scal (.ifc t v) X) Q := c
theorem W.scSl {l o n : Nat} {k : Option Nat} {X : Option R} (c : W X Q) : W (scal (.sl l o n k) X) Q := c
theorem W.nck {l o : Nat} {X : Option R} (c : W X Q) : W (nilck (.ptr l o) X) Q := c
theorem W.nnil {T : TypeId → Option TI} {K : Bool → Option R} (c : W (K true) Q) : W (eqI T σ true .nili .nili K) Q := c
theorem W.inil {T : TypeId → Option TI} {t : TypeId} {v : AVal} {K : Bool → Option R} (c : W (K false) Q) : W (eqI T σ true (.ifc t v) .nili K) Q := c
end
/-! ### Lists of one's own -/
section
variable {R α : Type} {v : Vw α} {σ0 σ : Heap} {xs ys : List α} {x y : AVal} {Q : R → Prop}
theorem W.push (h : Acc v σ0.next σ xs x) (L : Hle σ0 σ) {cs : List AVal} {a : α} (hr : v.rel (A.out σ x) a cs) {sz bytes : Nat} (hb : (xs.length + 1) * bytes ≤ 70368744177664) (hb' : xs.length + 1 ≤ 70368744177664) {K : AVal → Heap → Option R}
    (c : ∀ x' τ, Hle σ0 τ → Acc v σ0.next τ (xs ++ [a]) x' → Hle (A.out σ x) (A.out τ x') → W (K x' τ) Q) (hs : sz = v.sz := by rfl) : W (newK σ sz cs fun l τ => appS τ sz bytes x (.sl l 0 1 none) K) Q := by
  subst hs
  obtain ⟨x', τ, e, h1, h2, h3⟩ := h.push (bytes := bytes) L hr hb hb'
  exact W.to (e K) (c x' τ h1 h2 h3)
theorem W.pushI {xs : List Int} (h : Acc .int σ0.next σ xs x) (L : Hle σ0 σ) {a : Int} {bytes : Nat} (hb : (xs.length + 1) * bytes ≤ 70368744177664) (hb' : xs.length + 1 ≤ 70368744177664) {K : AVal → Heap → Option R}
    (c : ∀ x' τ, Hle σ0 τ → Acc .int σ0.next τ (xs ++ [a]) x' → Hle (A.out σ x) (A.out τ x') → W (K x' τ) Q) : W (newK σ 1 [.int .i64 a] fun l τ => appS τ 1 bytes x (.sl l 0 1 none) K) Q :=
  W.push h L (cs := [.int .i64 a]) (a := a) rfl hb hb' c
theorem W.app (h : Acc v σ0.next σ xs x) (L : Hle σ0 σ) (hy : SlV v (A.out σ x) ys y) {sz bytes : Nat} (hb : (xs.length + ys.length) * bytes ≤ 70368744177664) (hb' : xs.length + ys.length ≤ 70368744177664) {K : AVal → Heap → Option R}
    (c : ∀ x' τ, Hle σ0 τ → Acc v σ0.next τ (xs ++ ys) x' → Hle (A.out σ x) (A.out τ x') → W (K x' τ) Q) (hs : sz = v.sz := by rfl) : W (appS σ sz bytes x y K) Q := by
  subst hs
  obtain ⟨x', τ, e, h1, h2, h3⟩ := h.app (bytes := bytes) L hy hb hb'
  exact W.to (e K) (c x' τ h1 h2 h3)
theorem W.mk0 (v : Vw α) {n sz bytes : Nat} {z : List AVal} (hb : n * bytes ≤ 70368744177664) (hb' : n ≤ 70368744177664) {K : AVal → Heap → Option R}
    (c : ∀ x τ, Hle σ τ → Acc v σ.next τ [] x → W (K x τ) Q) (hs : sz = v.sz := by rfl) : W (mkS σ sz bytes z 0 (n : Int) K) Q := by
  subst hs
  obtain ⟨x, τ, e, h1, h2⟩ := A.mk0 (v := v) (σ := σ) (bytes := bytes) (z := z) hb hb'
  exact W.to (e K) (c x τ h1 h2)
end
end Go.Proofs.YtekehmgfedmflaaDoor.A

/- Errors, and the faults that they are. -/
namespace Go.Proofs.YtekehmgfedmflaaDoor.A
open Go
inductive Er where
  | text | limit | budget | range | blocks | proof | cert
  deriving DecidableEq
def Er.g : Er → Nat
  | .text => gText
  | .limit => gLimit
  | .budget => gBudget
  | .range => gRange
  | .blocks => gBlocks
  | .proof => gProof
  | .cert => gCert
def Er.s : Er → List UInt8
  | .text => [110, 111, 116, 32, 97, 115, 32, 105, 116, 32, 105, 115, 32, 119, 114, 105, 116, 116, 101, 110]
  | .limit => [109, 111, 114, 101, 32, 116, 104, 97, 110, 32, 109, 97, 121, 32, 98, 101]
  | .budget => [116, 104, 101, 32, 98, 117, 100, 103, 101, 116, 32, 105, 115, 32, 117, 115, 101, 100, 32, 117, 112]
  | .range => [97, 32, 110, 117, 109, 98, 101, 114, 32, 111, 117, 116, 32, 111, 102, 32, 105, 116, 115, 32, 114, 97, 110, 103, 101]
  | .blocks => [109, 111, 114, 101, 32, 116, 104, 97, 110, 32, 116, 119, 111, 32, 98, 108, 111, 99, 107, 115]
  | .proof => [97, 32, 115, 116, 101, 112, 32, 116, 104, 97, 116, 32, 100, 111, 101, 115, 32, 110, 111, 116, 32, 102, 111, 108, 108, 111, 119]
  | .cert => [110, 111, 32, 99, 101, 114, 116, 105, 102, 105, 99, 97, 116, 101, 32, 111, 102, 32, 105, 116]
def Er.code : Er → Int
  | .text => 101
  | .limit => 102
  | .budget => 103
  | .range => 104
  | .blocks => 105
  | .proof => 106
  | .cert => 107
def Er.all : List Er := [.text, .limit, .budget, .range, .blocks, .proof, .cert]
theorem Er.s_inj {e e' : Er} (h : e.s = e'.s) : e = e' := by
  revert h; cases e <;> cases e' <;> first | (intro _; rfl) | (intro h; exact absurd h (by decide))

/-- A value is this error. -/
def IsE (σ : Heap) (v : AVal) (e : Er) : Prop := e.g < σ.next ∧ σ.get e.g = some (.cells .rz 1 [v]) ∧ ∃ k, v = .ifc tErr (.ptr k 0) ∧ k < σ.next ∧ σ.get k = some (.cells .rz 1 [.str ⟨e.s.toArray⟩])
/-- Some errors' variables are there. -/
def GlS (E : List Er) (σ : Heap) : Prop := ∀ e ∈ E, ∃ v, IsE σ v e
abbrev GlAll (σ : Heap) : Prop := GlS Er.all σ
/-- An error as0 plain data. -/
abbrev Flt := Option (Er × Option Int)
def IsF (σ : Heap) (v : AVal) : Flt → Prop
  | none => v = .nili
  | some (e, none) => IsE σ v e
  | some (e, some pos) => ∃ l u, v = .ifc tAt (.ptr l 0) ∧ At σ (.ptr l 0) [.int .i64 pos, u] ∧ IsE σ u e
def fcells : Flt → List AVal
  | none => [.int .i64 0, .bool false, .int .i64 0]
  | some (e, none) => [.int .i64 e.code, .bool false, .int .i64 0]
  | some (e, some pos) => [.int .i64 e.code, .bool true, .int .i64 pos]

section
variable {σ τ : Heap} {v w : AVal} {e e' : Er} {f : Flt}
theorem IsE.mono (h : IsE σ v e) (L : Hle σ τ) : IsE τ v e := by
  obtain ⟨h1, h2, k, h3, h4, h5⟩ := h
  exact ⟨Nat.lt_of_lt_of_le h1 L.next, L.get _ _ h1 h2, k, h3, Nat.lt_of_lt_of_le h4 L.next, L.get _ _ h4 h5⟩
theorem GlS.mono {E : List Er} (h : GlS E σ) (L : Hle σ τ) : GlS E τ := fun e he => (h e he).elim fun v hv => ⟨v, hv.mono L⟩
theorem GlS.sub {E F : List Er} (h : GlS E σ) (k : ∀ e ∈ F, e ∈ E) : GlS F σ := fun e he => h e (k e he)
theorem IsF.mono (h : IsF σ v f) (L : Hle σ τ) : IsF τ v f := by
  match f, h with
  | none, h => exact h
  | some (e, none), h => exact IsE.mono h L
  | some (e, some pos), ⟨l, u, h1, h2, h3⟩ => exact ⟨l, u, h1, h2.mono L, h3.mono L⟩
theorem IsE.at (h : IsE σ v e) : At σ (.ptr e.g 0) [v] := At.of_get h.1 h.2.1
theorem IsE.inj (h : IsE σ v e) (k : IsE σ w e) : v = w := by
  have := h.2.1.symm.trans k.2.1
  simpa using this
theorem IsE.eqI (h : IsE σ v e) (k : IsE σ w e') {Rt : Type} (cn : Bool) (K : Bool → Option Rt) : eqI (tiOf prg) σ cn v w K = K (decide (e = e')) := by
  obtain ⟨ti, el, ei, q1, q2, q3, q4, q5⟩ := ti_err
  by_cases he : e = e'
  · subst he
    obtain rfl := h.inj k
    obtain ⟨h1, h2, a, rfl, h4, h5⟩ := h
    simp [A.eqI, q1, q2, q3, q4, q5]
  · obtain ⟨h1, h2, a, rfl, h4, h5⟩ := h
    obtain ⟨k1, k2, b, rfl, k4, k5⟩ := k
    have hne : e.s ≠ e'.s := fun hs => he (Er.s_inj hs)
    have hab : a ≠ b := fun hab => by
      subst hab; rw [h5] at k5; simp at k5; exact hne k5
    have hs : strNe [AVal.str ⟨e.s.toArray⟩][0]? [AVal.str ⟨e'.s.toArray⟩][0]? = true := by
      simp [strNe]; exact hne
    simp only [A.eqI, if_pos, q1, q2, q3, q4, q5, h5, k5, if_neg hab, Bool.not_true, Bool.or_false, cond_false, decide_eq_false he, hs]
    rw [if_pos (.inr ⟨rfl, rfl, trivial⟩)]
theorem IsF.nil (h : IsF σ v f) {Rt : Type} (K : Bool → Option Rt) : A.eqI (tiOf prg) σ true v .nili K = K f.isNone := by
  match f, h with
  | none, h => subst h; rfl
  | some (e, none), ⟨_, _, k, h, _⟩ => subst h; rfl
  | some (e, some pos), ⟨l, u, h, _⟩ => subst h; rfl
theorem IsF.scal (h : IsF σ v f) {Rt : Type} (X : Option Rt) : A.scal v X = X := by
  match f, h with
  | none, h => subst h; rfl
  | some (e, none), ⟨_, _, k, h, _⟩ => subst h; rfl
  | some (e, some pos), ⟨l, u, h, _⟩ => subst h; rfl
theorem IsE.scal (h : IsE σ v e) {Rt : Type} (X : Option Rt) : A.scal v X = X := by
  obtain ⟨_, _, k, h, _⟩ := h; subst h; rfl
end
section
variable {R : Type} {σ : Heap} {v w : AVal} {e e' : Er} {f : Flt} {Q : R → Prop}
theorem W.eI (h : IsE σ v e) (k : IsE σ w e') {cn : Bool} {K : Bool → Option R} (c : W (K (decide (e = e'))) Q) : W (eqI (tiOf prg) σ cn v w K) Q := W.to (h.eqI k cn K) c
theorem W.fnil (h : IsF σ v f) {K : Bool → Option R} (c : W (K f.isNone) Q) : W (eqI (tiOf prg) σ true v .nili K) Q := W.to (h.nil K) c
theorem W.enil (h : IsE σ v e) {K : Bool → Option R} (c : W (K false) Q) : W (eqI (tiOf prg) σ true v .nili K) Q := by
  obtain ⟨_, _, k, h, _⟩ := h; subst h; exact c
theorem W.escal (h : IsE σ v e) {X : Option R} (c : W X Q) : W (scal v X) Q := W.to (h.scal X) c
theorem W.glob {E : List Er} (h : GlS E σ) (e : Er) {K : AVal → Option R} (c : ∀ v, IsE σ v e → W (K v) Q) {g : Nat} (hg : g = e.g := by rfl) (he : e ∈ E := by decide) : W (ld σ (.ptr g 0) .V K) Q := by
  subst hg
  obtain ⟨v, hv⟩ := h e he
  exact W.ld0 hv.at rfl (c v hv)
end
theorem alike_w {σ : Heap} {v w : AVal} {e e' : Er} (h : IsE σ v e) (k : IsE σ w e') : W (S.skolemsee_Alike v w σ) fun r => r = decide (e = e') := by
  unfold S.skolemsee_Alike
  repeat' (first | (with_reducible (first | refine W.ret ?_ | refine W.bind ?_)) | (with_reducible refine W.condF ?_ ?_; focus (first | (simp only [q1, q2, q3, q4, q5, q6, q7, q8, q9, q10, q11, q12, q13, q14, q15, q16, q17, q18, q19, q20, q21, q22, q23, q24, q25, q26, q27, q28, q29, q30, Kd.ty]; done) | (simp only [q1, q2, q3, q4, q5, q6, q7, q8, q9, q10, q11, q12, q13, q14, q15, q16, q17, q18, q19, q20, q21, q22, q23, q24, q25, q26, q27, q28, q29, q30, Kd.ty]; omega) | assumption)) | refine W.enil (by assumption) ?_ | refine W.eI (by assumption) (by assumption) ?_)
  rfl

def vE : Vw Er := ⟨1, fun σ e us => ∃ x, us = [x] ∧ IsE σ x e, Nat.one_pos, fun h => by obtain ⟨_, rfl, _⟩ := h; rfl, fun L h => by
  obtain ⟨x, e, h⟩ := h
  exact ⟨x, e, h.mono L⟩⟩

theorem sentinel_w {σ : Heap} {v : AVal} {e : Er} (hg : GlAll σ) (h : IsE σ v e) : W (S.skolemsee_sentinel v σ) fun r => r.1 = e.code ∧ Hle σ r.2 := by
  unfold S.skolemsee_sentinel S.skolemsee_sentinels
  refine W.bind ?_
  refine W.glob hg .text fun v1 h1 => W.glob hg .limit fun v2 h2 => W.glob hg .budget fun v3 h3 => W.glob hg .range fun v4 h4 => W.glob hg .blocks fun v5 h5 => W.glob hg .proof fun v6 h6 => W.glob hg .cert fun v7 h7 => ?_
  refine W.escal h1 (W.escal h2 (W.escal h3 (W.escal h4 (W.escal h5 (W.escal h6 (W.escal h7 ?_))))))
  refine W.newg fun l τ hl L hA hgl hn => ?_
  repeat' (with_reducible (first | refine W.ret ?_ | refine W.bind ?_))
  have hsl : SlV vE τ Er.all (.sl l 0 7 none) := .inr ⟨l, 0, none, .rw, _, rfl, by omega, hgl, Nat.le_of_ble_eq_true rfl, fun i u hi => by
    match i, hi with
    | 0, hi => cases hi; exact ⟨v1, rfl, h1.mono L⟩
    | 1, hi => cases hi; exact ⟨v2, rfl, h2.mono L⟩
    | 2, hi => cases hi; exact ⟨v3, rfl, h3.mono L⟩
    | 3, hi => cases hi; exact ⟨v4, rfl, h4.mono L⟩
    | 4, hi => cases hi; exact ⟨v5, rfl, h5.mono L⟩
    | 5, hi => cases hi; exact ⟨v6, rfl, h6.mono L⟩
    | 6, hi => cases hi; exact ⟨v7, rfl, h7.mono L⟩
    | k + 7, hi => simp [Er.all] at hi⟩
  replace h := h.mono L
  have hnx := L.next
  refine W.loopP 7 (fun i x => x = (i : Int) ∧ ∀ j u, j < i → Er.all[j]? = some u → e ≠ u) ⟨rfl, fun j u hj => by omega⟩ fun i x hi hI => ?_
  obtain ⟨rfl, hI⟩ := hI
  unfold S.skolemsee_sentinel.b0
  repeat' (first | (with_reducible (first | refine W.stopP ?_ | refine W.ret ?_ | refine W.len (by assumption) ?_)) | (with_reducible refine W.cnd (fun hc => ?_) (fun hc => ?_) <;> (try simp only [q1, q2, q3, q4, q5, q6, q7, q8, q9, q10, q11, q12, q13, q14, q15, q16, q17, q18, q19, q20, q21, q22, q23, q24, q25, q26, q27, q28, q29, q30, Kd.ty] at hc) <;> (try (exfalso; omega))))
  · refine W.ixc hsl (by omega) fun p ps u hu hp hr => ?_
    obtain ⟨x, rfl, hx⟩ := hr
    repeat' (with_reducible (first | refine W.bind ?_ | refine W.asV ?_ | refine W.ld0 (by assumption) (by with_unfolding_all rfl) ?_))
    refine W.mono (alike_w h hx) fun r hr => ?_
    subst hr
    (with_reducible refine W.cnd (fun hq => ?_) (fun hq => ?_) <;> (try simp only [q1, q2, q3, q4, q5, q6, q7, q8, q9, q10, q11, q12, q13, q14, q15, q16, q17, q18, q19, q20, q21, q22, q23, q24, q25, q26, q27, q28, q29, q30, Kd.ty] at hq) <;> (try (exfalso; omega)))
    · repeat' (with_reducible (first | refine W.stopP ?_ | refine W.ret ?_))
      subst hq
      refine ⟨?_, L⟩
      have : IntKind.i64.wrap (101 + (i : Int)) = 101 + i := by rw [wrapS] <;> omega
      rw [this]
      have : i < 7 := by simp [Er.all] at *; omega
      match i, hu with
      | 0, hu => cases hu; rfl
      | 1, hu => cases hu; rfl
      | 2, hu => cases hu; rfl
      | 3, hu => cases hu; rfl
      | 4, hu => cases hu; rfl
      | 5, hu => cases hu; rfl
      | 6, hu => cases hu; rfl
      | k + 7, hu => omega
    · repeat' (with_reducible refine W.nextP ?_)
      have w2 : IntKind.i64.wrap ((i : Int) + 1) = ((i + 1 : Nat) : Int) := by rw [wrapS] <;> omega
      have : i < 7 := by simp [Er.all] at *; omega
      refine ⟨this, w2, fun j u' hj hu' he => ?_⟩
      rcases Nat.lt_succ_iff_lt_or_eq.1 hj with hj | rfl
      · exact hI j u' hj hu' he
      · rw [hu] at hu'; cases hu'; exact hq he
  · exfalso
    have h7 : i = 7 := by simp [Er.all] at hc; omega
    subst h7
    cases e
    · exact hI 0 _ (by omega) rfl rfl
    · exact hI 1 _ (by omega) rfl rfl
    · exact hI 2 _ (by omega) rfl rfl
    · exact hI 3 _ (by omega) rfl rfl
    · exact hI 4 _ (by omega) rfl rfl
    · exact hI 5 _ (by omega) rfl rfl
    · exact hI 6 _ (by omega) rfl rfl

theorem none_w {σ : Heap} : W (S.skolemref_None σ) fun r => r.1 = .agg (fcells none) ∧ Hle σ r.2 := by
  unfold S.skolemref_None
  refine W.new fun l τ hl L h hnτ => ?_
  refine W.st0 h (by rfl) fun τ2 L2 hnτ2 h => ?_
  repeat' (with_reducible (first | refine W.ret ?_ | refine W.ldGL (by assumption) (Nat.le_of_ble_eq_true (by with_unfolding_all rfl)) ?_))
  exact ⟨rfl, L.ofk (by omega) L2⟩
theorem bare_w {σ : Heap} {n : Int} : W (S.skolemref_Bare n σ) fun r => r.1 = .agg [.int .i64 n, .bool false, .int .i64 0] ∧ Hle σ r.2 := by
  unfold S.skolemref_Bare
  refine W.new fun l τ hl L h hnτ => ?_
  refine W.st0 h (by rfl) fun τ2 L2 hnτ2 h => ?_
  repeat' (with_reducible (first | refine W.ret ?_ | refine W.ldGL (by assumption) (Nat.le_of_ble_eq_true (by with_unfolding_all rfl)) ?_))
  exact ⟨rfl, L.ofk (by omega) L2⟩
theorem placed_w {σ : Heap} {n p : Int} (hn : n ≠ 0) : W (S.skolemref_Placed n p σ) fun r => r.1 = .agg [.int .i64 n, .bool true, .int .i64 p] ∧ Hle σ r.2 := by
  unfold S.skolemref_Placed
  refine W.new fun l τ hl L h hnτ => ?_
  (with_reducible refine W.cnd (fun hc => ?_) (fun hc => ?_) <;> (try simp only [q1, q2, q3, q4, q5, q6, q7, q8, q9, q10, q11, q12, q13, q14, q15, q16, q17, q18, q19, q20, q21, q22, q23, q24, q25, q26, q27, q28, q29, q30, Kd.ty] at hc) <;> (try (exfalso; omega)))
  refine W.st0 h (by rfl) fun τ2 L2 hnτ2 h => ?_
  repeat' (with_reducible (first | refine W.ret ?_ | refine W.ldGL (by assumption) (Nat.le_of_ble_eq_true (by with_unfolding_all rfl)) ?_))
  exact ⟨rfl, L.ofk (by omega) L2⟩
theorem Er.code_ne (e : Er) : e.code ≠ 0 := by cases e <;> decide
theorem fault_w {σ : Heap} {v : AVal} {f : Flt} (hg : GlAll σ) (h : IsF σ v f) : W (S.skolemsee_Fault v σ) fun r => r.1 = .agg (fcells f) ∧ Hle σ r.2 := by
  unfold S.skolemsee_Fault
  refine W.new fun l τ hl L hl hnτ => ?_
  replace h := h.mono L
  replace hg := hg.mono L
  have hnx := L.next
  refine W.fnil h ?_
  match f, h with
  | none, h =>
    refine W.cnd (fun _ => ?_) (fun hc => by cases hc)
    refine W.call none_w fun r ⟨hr, L2⟩ => ?_
    obtain ⟨r, τ2⟩ := r
    simp only at hr L2; subst hr
    replace hl := hl.mono L2
    have hnx := L2.next
    repeat' (with_reducible refine W.aggK (by with_unfolding_all rfl) ?_)
    refine W.st0 hl (by rfl) fun τ3 L3 hnτ3 hl => ?_
    repeat' (with_reducible (first | refine W.ret ?_ | refine W.ldGL (by assumption) (Nat.le_of_ble_eq_true (by with_unfolding_all rfl)) ?_))
    exact ⟨rfl, (L.mono L2).ofk (by omega) L3⟩
  | some (e, none), h =>
    refine W.cnd (fun hc => by cases hc) (fun _ => ?_)
    have he : IsE τ v e := h
    obtain ⟨_, _, k, rfl, _⟩ := id he
    simp only [assertZ, assertK]
    rw [if_neg (by decide)]
    simp only [Bool.not_false, cond_true]
    refine W.call (sentinel_w hg he) fun r ⟨hr, L2⟩ => ?_
    obtain ⟨r, τ2⟩ := r
    simp only at hr L2; subst hr
    replace hl := hl.mono L2
    have hnx := L2.next
    refine W.call bare_w fun r ⟨hr, L3⟩ => ?_
    obtain ⟨r, τ3⟩ := r
    simp only at hr L3; subst hr
    replace hl := hl.mono L3
    have hnx := L3.next
    repeat' (with_reducible refine W.aggK (by with_unfolding_all rfl) ?_)
    refine W.st0 hl (by rfl) fun τ4 L4 hnτ4 hl => ?_
    repeat' (with_reducible (first | refine W.ret ?_ | refine W.ldGL (by assumption) (Nat.le_of_ble_eq_true (by with_unfolding_all rfl)) ?_))
    exact ⟨rfl, ((L.mono L2).mono L3).ofk (by omega) L4⟩
  | some (e, some pos), h =>
    obtain ⟨k, u, rfl, hk, he⟩ := h
    refine W.cnd (fun hc => by cases hc) (fun _ => ?_)
    simp only [assertZ, assertK]
    rw [if_pos (by decide)]
    simp only [Bool.not_true, cond_false, eqP, nilck]
    repeat' (first | (with_reducible (first | refine W.ret ?_ | refine W.bind ?_ | refine W.asV ?_ | refine W.fldp ?_ | refine W.ldp (by assumption) (by with_unfolding_all rfl) ?_)) | (with_reducible refine W.condF ?_ ?_; focus (first | (simp only [q1, q2, q3, q4, q5, q6, q7, q8, q9, q10, q11, q12, q13, q14, q15, q16, q17, q18, q19, q20, q21, q22, q23, q24, q25, q26, q27, q28, q29, q30, Kd.ty]; done) | (simp only [q1, q2, q3, q4, q5, q6, q7, q8, q9, q10, q11, q12, q13, q14, q15, q16, q17, q18, q19, q20, q21, q22, q23, q24, q25, q26, q27, q28, q29, q30, Kd.ty]; omega) | assumption)) | refine W.enil he ?_)
    skip
    refine W.mono (sentinel_w hg he) fun r ⟨hr, L2⟩ => ?_
    obtain ⟨r, τ2⟩ := r
    simp only at hr L2; subst hr
    have hk2 := hk.mono L2
    replace hl := hl.mono L2
    have hnx := L2.next
    repeat' (with_reducible (first | refine W.bind ?_ | refine W.asI ?_ | refine W.chk rfl ?_ | refine W.fldp ?_ | refine W.ldp (by assumption) (by with_unfolding_all rfl) ?_))
    refine W.mono (placed_w e.code_ne) fun r ⟨hr, L3⟩ => ?_
    obtain ⟨r, τ3⟩ := r
    simp only at hr L3; subst hr
    replace hl := hl.mono L3
    have hnx := L3.next
    repeat' (with_reducible refine W.aggK (by with_unfolding_all rfl) ?_)
    refine W.st0 hl (by rfl) fun τ4 L4 hnτ4 hl => ?_
    repeat' (with_reducible (first | refine W.ret ?_ | refine W.ldGL (by assumption) (Nat.le_of_ble_eq_true (by with_unfolding_all rfl)) ?_))
    exact ⟨rfl, ((L.mono L2).mono L3).ofk (by omega) L4⟩
theorem sameFault_w {σ : Heap} {a b : Int} {p q : Bool} {x y : Int} : W (S.skolemref_SameFault (.agg [.int .i64 a, .bool p, .int .i64 x]) (.agg [.int .i64 b, .bool q, .int .i64 y]) σ) fun r => r.1 = (decide (a = b) && decide (p = q) && decide (x = y)) ∧ Hle σ r.2 := by
  unfold S.skolemref_SameFault
  repeat' (with_reducible refine W.aggK (by with_unfolding_all rfl) ?_)
  refine W.new fun l τ hl L h hnτ => ?_
  repeat' (with_reducible refine W.aggK (by with_unfolding_all rfl) ?_)
  refine W.new fun k τ2 hk L2 h2 hnτ2 => ?_
  replace h := h.mono L2
  have hnx := L2.next
  repeat' (first | (with_reducible (first | refine W.ret ?_ | refine W.bind ?_ | refine W.asI ?_ | refine W.asB ?_ | refine W.ldL (by assumption) (by with_unfolding_all rfl) ?_)) | (with_reducible refine W.cnd (fun hc => ?_) (fun hc => ?_) <;> (try simp only [q1, q2, q3, q4, q5, q6, q7, q8, q9, q10, q11, q12, q13, q14, q15, q16, q17, q18, q19, q20, q21, q22, q23, q24, q25, q26, q27, q28, q29, q30, Kd.ty] at hc) <;> (try (exfalso; omega))))
  all_goals (refine ⟨?_, L.mono L2⟩; simp [*])
  rfl
theorem fcells_inj {f g : Flt} (h : fcells f = fcells g) : f = g := by
  have key : ∀ e e' : Er, e.code = e'.code → e = e' := by intro e e'; cases e <;> cases e' <;> first | (intro _; rfl) | (intro h; exact absurd h (by decide))
  match f, g, h with
  | none, none, _ => rfl
  | none, some (e, none), h => exact absurd h (by cases e <;> simp [fcells, Er.code])
  | none, some (e, some p), h => exact absurd h (by cases e <;> simp [fcells, Er.code])
  | some (e, none), none, h => exact absurd h (by cases e <;> simp [fcells, Er.code])
  | some (e, some p), none, h => exact absurd h (by cases e <;> simp [fcells, Er.code])
  | some (e, none), some (e', none), h => simp [fcells] at h; rw [key e e' h]
  | some (e, none), some (e', some p), h => simp [fcells] at h
  | some (e, some p), some (e', none), h => simp [fcells] at h
  | some (e, some p), some (e', some q), h => simp [fcells] at h; rw [key e e' h.1, h.2]
theorem fcells_eq (f : Flt) : ∃ a p x, fcells f = [.int .i64 a, .bool p, .int .i64 x] := by
  match f with
  | none => exact ⟨_, _, _, rfl⟩
  | some (e, none) => exact ⟨_, _, _, rfl⟩
  | some (e, some p) => exact ⟨_, _, _, rfl⟩
theorem see_w {σ : Heap} {v : AVal} {f g : Flt} (hg : GlAll σ) (h : IsF σ v f) : W (S.skolemsee_Same v (.agg (fcells g)) σ) fun r => r.1 = decide (f = g) ∧ Hle σ r.2 := by
  unfold S.skolemsee_Same
  obtain ⟨b, q, y, eg⟩ := fcells_eq g
  rw [eg]
  repeat' (with_reducible refine W.aggK (by with_unfolding_all rfl) ?_)
  refine W.new fun l τ hl L hl hnτ => ?_
  replace h := h.mono L
  replace hg := hg.mono L
  have hnx := L.next
  refine W.call (fault_w hg h) fun r ⟨hr, L2⟩ => ?_
  obtain ⟨r, τ2⟩ := r
  simp only at hr L2; subst hr
  have hl2 := hl.mono L2
  repeat' (with_reducible (first | refine W.bind ?_ | refine W.chk rfl ?_ | refine W.ldGL (by assumption) (Nat.le_of_ble_eq_true (by with_unfolding_all rfl)) ?_))
  obtain ⟨a, p, x, ef⟩ := fcells_eq f
  simp only [ef]
  refine W.mono sameFault_w fun r ⟨hr, L3⟩ => ?_
  repeat' (with_reducible refine W.ret ?_)
  refine ⟨?_, (L.mono L2).mono L3⟩
  rw [hr]
  by_cases hfg : f = g
  · subst hfg; rw [ef] at eg; simp at eg; simp [eg]
  · have : ¬ (a = b ∧ p = q ∧ x = y) := fun ⟨h1, h2, h3⟩ => hfg (fcells_inj (by rw [ef, eg, h1, h2, h3]))
    rw [decide_eq_false hfg]
    simp only [Bool.and_eq_false_iff, decide_eq_false_iff_not]
    by_cases h1 : a = b
    · by_cases h2 : p = q
      · exact .inr fun h3 => this ⟨h1, h2, h3⟩
      · exact .inl (.inr h2)
    · exact .inl (.inl h1)
theorem seeIs_w {σ : Heap} {v : AVal} {f : Flt} {e : Er} (hg : GlAll σ) (h : IsF σ v f) {n : Int} (hn : n = e.code := by rfl) : W (S.skolemsee_Is v n σ) fun r => r.1 = decide (f = some (e, none)) ∧ Hle σ r.2 := by
  unfold S.skolemsee_Is
  subst hn
  refine W.call bare_w fun r ⟨hr, L⟩ => ?_
  obtain ⟨r, τ⟩ := r
  simp only at hr L; subst hr
  replace h := h.mono L
  replace hg := hg.mono L
  have hnx := L.next
  refine W.call (see_w (g := some (e, none)) hg h) fun r ⟨hr, L2⟩ => ?_
  repeat' (with_reducible refine W.ret ?_)
  exact ⟨hr, L.mono L2⟩
end Go.Proofs.YtekehmgfedmflaaDoor.A

/- Literals in order, each once: plain lists. -/
namespace Go.Proofs.YtekehmgfedmflaaDoor.A
open Go
theorem ordL_iff {a b : Int} : ordL a b = true ↔ a.natAbs < b.natAbs ∨ (a.natAbs = b.natAbs ∧ a ≤ b) := by simp [ordL]
theorem ordL_total (a b : Int) : (ordL a b || ordL b a) = true := by
  rw [Bool.or_eq_true, ordL_iff, ordL_iff]; omega
theorem ordL_trans (a b c : Int) (h : ordL a b = true) (k : ordL b c = true) : ordL a c = true := by
  rw [ordL_iff] at *; omega
/-- Without neighbours that are equal. -/
def compactL : List Int → List Int
  | [] => []
  | [x] => [x]
  | x :: y :: t => if x = y then compactL (y :: t) else x :: compactL (y :: t)
theorem compactL_mem {v : Int} : ∀ {xs : List Int}, v ∈ compactL xs ↔ v ∈ xs
  | [] => Iff.rfl
  | [x] => Iff.rfl
  | x :: y :: t => by
    rw [compactL]
    split
    · rename_i h; subst h
      rw [compactL_mem]; simp
    · rw [List.mem_cons, compactL_mem, List.mem_cons (a := v) (b := x)]
theorem compactL_cc (x y : Int) (t : List Int) : compactL (x :: y :: t) = if x = y then compactL (y :: t) else x :: compactL (y :: t) := by rw [compactL]
theorem compactL_push (a : Int) : ∀ xs : List Int, compactL (xs ++ [a]) = if xs.getLast? = some a then compactL xs else compactL xs ++ [a]
  | [] => rfl
  | [x] => by
    show compactL [x, a] = _
    rw [compactL_cc]
    by_cases h : x = a
    · subst h; rw [if_pos rfl]; rw [if_pos (by rfl)]
    · rw [if_neg h, if_neg (by simpa using h)]; rfl
  | x :: y :: t => by
    have ih := compactL_push a (y :: t)
    show compactL (x :: y :: (t ++ [a])) = _
    have e : (x :: y :: t).getLast? = (y :: t).getLast? := by simp [List.getLast?_cons_cons]
    rw [e, compactL_cc, compactL_cc]
    have ih : compactL (y :: (t ++ [a])) = _ := ih
    rw [ih]
    split <;> split <;> simp
theorem compactL_len : ∀ xs : List Int, (compactL xs).length ≤ xs.length
  | [] => Nat.le_refl _
  | [x] => Nat.le_refl _
  | x :: y :: t => by
    have ih := compactL_len (y :: t)
    rw [compactL_cc]
    split
    · simp at ih ⊢; omega
    · simp at ih ⊢; omega

/-- Before, in the order. -/
def ltL (a b : Int) : Prop := a.natAbs < b.natAbs ∨ (a.natAbs = b.natAbs ∧ a < b)
def normL (c : List Int) : List Int := compactL (sortedO c)
theorem sortedO_mem {c : List Int} {v : Int} : v ∈ sortedO c ↔ v ∈ c := List.mem_mergeSort
theorem normL_mem {c : List Int} {v : Int} : v ∈ normL c ↔ v ∈ c := by rw [normL, compactL_mem, sortedO_mem]
theorem compactL_strict : ∀ {xs : List Int}, xs.Pairwise (fun a b => ordL a b = true) → (compactL xs).Pairwise ltL
  | [], _ => List.Pairwise.nil
  | [x], _ => by simp [compactL]
  | x :: y :: t, h => by
    have h' := List.pairwise_cons.1 h
    rw [compactL]
    split
    · exact compactL_strict h'.2
    · rename_i hne
      refine List.pairwise_cons.2 ⟨fun v hv => ?_, compactL_strict h'.2⟩
      rw [compactL_mem] at hv
      have hxv := h'.1 v hv
      have hxy := h'.1 y (by simp)
      have hv2 : v = y ∨ ordL y v = true := by
        rcases List.mem_cons.1 hv with rfl | hv
        · exact .inl rfl
        · exact .inr ((List.pairwise_cons.1 h'.2).1 v hv)
      rw [ordL_iff] at hxv hxy
      unfold ltL
      rcases hv2 with rfl | h2
      · omega
      · rw [ordL_iff] at h2; omega
theorem normL_strict (c : List Int) : (normL c).Pairwise ltL :=
  compactL_strict (List.pairwise_mergeSort ordL_trans ordL_total c)
theorem strict_ext : ∀ {xs ys : List Int}, xs.Pairwise ltL → ys.Pairwise ltL → (∀ v, v ∈ xs ↔ v ∈ ys) → xs = ys
  | [], [], _, _, _ => rfl
  | [], y :: ys, _, _, h => by have := (h y).2 (by simp); cases this
  | x :: xs, [], _, _, h => by have := (h x).1 (by simp); cases this
  | x :: xs, y :: ys, hx, hy, h => by
    have hx' := List.pairwise_cons.1 hx
    have hy' := List.pairwise_cons.1 hy
    have exy : x = y := by
      have h1 := (h x).1 (by simp)
      have h2 := (h y).2 (by simp)
      rcases List.mem_cons.1 h1 with h1 | h1
      · exact h1
      · rcases List.mem_cons.1 h2 with h2 | h2
        · exact h2.symm
        · have a := hx'.1 y h2; have b := hy'.1 x h1; unfold ltL at a b; omega
    subst exy
    rw [strict_ext hx'.2 hy'.2 fun v => ?_]
    constructor
    · intro hv
      rcases List.mem_cons.1 ((h v).1 (List.mem_cons_of_mem _ hv)) with e | h2
      · subst e; have a := hx'.1 v hv; unfold ltL at a; omega
      · exact h2
    · intro hv
      rcases List.mem_cons.1 ((h v).2 (List.mem_cons_of_mem _ hv)) with e | h2
      · subst e; have a := hy'.1 v hv; unfold ltL at a; omega
      · exact h2
/-- Two clauses have one normal form just where they have the same literals. -/
theorem normL_eq_iff {c d : List Int} : normL c = normL d ↔ ∀ v, v ∈ c ↔ v ∈ d :=
  ⟨fun h v => by rw [← normL_mem, h, normL_mem], fun h => strict_ext (normL_strict c) (normL_strict d) fun v => by rw [normL_mem, normL_mem, h]⟩
theorem normL_len (c : List Int) : (normL c).length ≤ c.length := Nat.le_trans (compactL_len _) (by rw [sortedO_len]; exact Nat.le_refl _)
theorem normL_idem (c : List Int) : normL (normL c) = normL c := normL_eq_iff.2 fun v => normL_mem
end Go.Proofs.YtekehmgfedmflaaDoor.A

/- Copies, joins, merged blocks; equal lists. -/
namespace Go.Proofs.YtekehmgfedmflaaDoor.A
open Go
theorem eqS_nil {x : AVal} {α : Type} {v : Vw α} {σ : Heap} {xs : List α} (h : SlV v σ xs x) : (x = .nils ∧ xs = []) ∨ ∀ {Rt : Type} (K : Bool → Option Rt), eqS x .nils K = K false := by
  rcases h with h | ⟨l, off, c, md, cs, rfl, _⟩
  · exact .inl h
  · exact .inr fun K => rfl

theorem clone_eq {σ : Heap} {xs : List Int} {x : AVal} (h : SlV .int σ xs x) (hb : xs.length ≤ 1000000) :
    ∃ y τ, S.slices_Clone_int_int x σ = some (y, τ) ∧ Hle σ τ ∧ Acc .int σ.next τ xs y := by
  unfold S.slices_Clone_int_int
  rcases eqS_nil h with ⟨rfl, rfl⟩ | h1
  · exact ⟨.nils, σ, rfl, Hle.refl _, Acc.nil _ _ _⟩
  · rw [h1]
    simp only [cond_false, newK]
    have ha : Acc Vw.int σ.next (σ.new (.cells .rw 1 [])) [] (.sl σ.next 0 0 none) := .inr ⟨σ.next, [], rfl, Nat.le_refl _, Nat.lt_succ_self _, by simp [Heap.new, Vw.int], by simp, fun i a hi => by simp at hi⟩
    have L := (Hle.refl σ).new (.cells .rw 1 [])
    obtain ⟨y, τ, e1, e2, e3, _⟩ := ha.app (bytes := 8) (w := x) (ys := xs) L (h.mono (ha.out_le L)) (by simp; omega) (by simp; omega)
    have e1 : ∀ {Rt : Type} (K : AVal → Heap → Option Rt), appS (σ.new (.cells .rw 1 [])) 1 8 (.sl σ.next 0 0 none) x K = K y τ := e1
    exact ⟨y, τ, by rw [e1], e2, by simpa using e3⟩

theorem take_flat_le (zs : List (List Int)) (i : Nat) : (zs.take i).flatten.length ≤ zs.flatten.length := by
  conv => rhs; rw [← List.take_append_drop i zs]
  rw [List.flatten_append, List.length_append]; omega
theorem take_succ_flat {zs : List (List Int)} {i : Nat} {z : List Int} (h : zs[i]? = some z) : (zs.take (i + 1)).flatten = (zs.take i).flatten ++ z := by
  rw [List.take_add_one, h, List.flatten_append]; simp

theorem ld_i {σ : Heap} {p : AVal} {a : Int} {us : List AVal} (h : At σ p us) (hr : Vw.int.rel σ a us) {Rt : Type} (K : Int → Option Rt) : ld σ p (.I .i64) K = K a := by
  have hr : us = [.int .i64 a] := hr
  subst hr; rw [h.ld]; simp [asK]

theorem sameInts_eq {σ : Heap} {xs ys : List Int} {x y : AVal} (hx : SlV .int σ xs x) (hy : SlV .int σ ys y) (hb : xs.length ≤ 1000000) : S.skolemref_SameInts x y σ = some (decide (xs = ys)) := by
  unfold S.skolemref_SameInts
  rw [hx.len, hy.len]
  by_cases hl : xs.length = ys.length
  · have hc : ((xs.length : Int) != (ys.length : Int)) = false := by simp [hl]
    rw [hc]
    simp only [cond_false]
    obtain ⟨r, e1, e2⟩ := loopP_inv (f := S.skolemref_SameInts.b0 x y σ) (x := (0 : Int)) xs.length (fun i z => z = (i : Int) ∧ ∀ j, j < i → xs[j]? = ys[j]?) (fun r => (r = .inl () ∧ xs = ys) ∨ (r = .inr false ∧ xs ≠ ys))
      (fun i z hi hI => by
        obtain ⟨rfl, hI⟩ := hI
        obtain ⟨a, ha⟩ : ∃ a, xs[i]? = some a := ⟨_, List.getElem?_eq_getElem hi⟩
        obtain ⟨b, hb⟩ : ∃ b, ys[i]? = some b := ⟨_, List.getElem?_eq_getElem (by omega)⟩
        obtain ⟨p, us, c2, c3, c1⟩ := hx.ix ha
        obtain ⟨q, bs, d2, d3, d1⟩ := hy.ix hb
        have hd : decide ((i : Int) < (xs.length : Int)) = true := by simp; omega
        have w2 : IntKind.i64.wrap ((i : Int) + 1) = ((i + 1 : Nat) : Int) := by rw [wrapS] <;> omega
        have key : S.skolemref_SameInts.b0 x y σ (i : Int) = cond (!(a == b)) (some (.inr (.inr false))) (some (.inl ((i + 1 : Nat) : Int))) := by
          unfold S.skolemref_SameInts.b0
          rw [hx.len, hd]
          simp only [cond_true]
          rw [show ixA σ x 1 = ixA σ x Vw.int.sz from rfl, show ixA σ y 1 = ixA σ y Vw.int.sz from rfl, c1 (Hle.refl _), ld_i c2 c3, d1 (Hle.refl _), ld_i d2 d3, w2]
        rw [key]
        by_cases hab : a = b
        · subst hab
          refine .inl ⟨_, by simp only [beq_self_eq_true, Bool.not_true, cond_false], rfl, fun j hj => ?_⟩
          rcases Nat.lt_succ_iff_lt_or_eq.1 hj with hj | rfl
          · exact hI j hj
          · rw [ha, hb]
        · refine .inr ⟨.inr false, by rw [show (a == b) = false by simpa using hab]; rfl, .inr ⟨rfl, fun e => ?_⟩⟩
          subst e; rw [ha] at hb; cases hb; exact hab rfl)
      (fun z hI => by
        obtain ⟨rfl, hI⟩ := hI
        refine ⟨.inl (), ?_, .inl ⟨rfl, ?_⟩⟩
        · unfold S.skolemref_SameInts.b0
          have hd : decide ((xs.length : Int) < (xs.length : Int)) = false := by simp
          rw [hx.len, hd]; rfl
        · apply List.ext_getElem? fun j => ?_
          by_cases hj : j < xs.length
          · exact hI j hj
          · rw [List.getElem?_eq_none (by omega), List.getElem?_eq_none (by omega)]) ⟨rfl, fun j hj => by omega⟩
    rw [e1]
    simp only [Option.bind_some]
    rcases e2 with ⟨rfl, e⟩ | ⟨rfl, e⟩
    · simp [e]
    · simp [e]
  · have hc : ((xs.length : Int) != (ys.length : Int)) = true := by simp; omega
    rw [hc]
    have : xs ≠ ys := fun e => hl (by rw [e])
    simp [this]
end Go.Proofs.YtekehmgfedmflaaDoor.A

/- Maps by numbers, as0 lists of pairs. -/
namespace Go.Proofs.YtekehmgfedmflaaDoor.A
open Go
def ents (ps : List (Int × AVal)) : List (AVal × AVal) := ps.map fun p => (.int .i64 p.1, p.2)
def look : List (Int × AVal) → Int → Option AVal
  | [], _ => none
  | p :: ps, n => if n = p.1 then some p.2 else look ps n
def keysOf (ps : List (Int × AVal)) : List Int := ps.map (·.1)
/-- A map. -/
structure MapV (σ : Heap) (l : Nat) (ps : List (Int × AVal)) : Prop where
  lt : l < σ.next
  get : σ.get l = some (.map (ents ps))
  nodup : (keysOf ps).Nodup

theorem MapV.mono {σ τ : Heap} {l : Nat} {ps : List (Int × AVal)} (h : MapV σ l ps) (L : Hle σ τ) : MapV τ l ps := ⟨Nat.lt_of_lt_of_le h.lt L.next, L.get _ _ h.lt h.get, h.nodup⟩
theorem MapV.new (σ : Heap) : MapV (σ.new (.map [])) σ.next [] := ⟨Nat.lt_succ_self _, by rw [hnew_get, if_pos rfl]; rfl, by simp [keysOf]⟩

theorem look_none {ps : List (Int × AVal)} {n : Int} : look ps n = none ↔ n ∉ keysOf ps := by
  induction ps with
  | nil => simp [look, keysOf]
  | cons p ps ih =>
    simp only [look, keysOf, List.map_cons, List.mem_cons]
    by_cases h : n = p.1
    · simp [h]
    · simp only [h, if_false, false_or]; exact ih
theorem mfind_ents (n : Int) : ∀ (ps : List (Int × AVal)) (i : Nat), (look ps n = none ∧ mfind .i64 n (ents ps) i = some none) ∨ ∃ j x, look ps n = some x ∧ mfind .i64 n (ents ps) i = some (some (i + j)) ∧ ps[j]? = some (n, x)
  | [], i => .inl ⟨rfl, rfl⟩
  | p :: ps, i => by
    by_cases h : n = p.1
    · exact .inr ⟨0, p.2, by simp [look, h], by simp [ents, mfind, h], by rw [h]; rfl⟩
    · rcases mfind_ents n ps (i + 1) with ⟨h1, h2⟩ | ⟨j, x, h1, h2, h3⟩
      · exact .inl ⟨by simp [look, h, h1], by simp only [ents, List.map_cons, mfind, if_true, if_neg h]; exact h2⟩
      · exact .inr ⟨j + 1, x, by simp [look, h, h1], by simp only [ents, List.map_cons, mfind, if_true, if_neg h]; rw [show i + (j + 1) = i + 1 + j by omega]; exact h2, by simpa using h3⟩

section
variable {σ : Heap} {l : Nat} {ps : List (Int × AVal)} {n : Int} {x : AVal}
theorem MapV.mget (h : MapV σ l ps) {Rt : Type} (K : Option AVal → Option Rt) : mgetK σ (.map l) .i64 n K = K (look ps n) := by
  simp only [mgetK, h.get]
  rcases mfind_ents n ps 0 with ⟨h1, h2⟩ | ⟨j, x, h1, h2, h3⟩
  · rw [h2, h1]
  · rw [h2, h1]
    have : (ents ps)[0 + j]? = some (.int .i64 n, x) := by rw [Nat.zero_add]; simp [ents, h3]
    simp only [this]
theorem MapV.mgetZ (h : MapV σ l ps) (z : AVal) {Rt : Type} (K : AVal → Bool → Option Rt) : mgetZ σ (.map l) .i64 n z K = K ((look ps n).getD z) (look ps n).isSome := by
  unfold A.mgetZ
  rw [h.mget]
  cases look ps n <;> rfl
end
end Go.Proofs.YtekehmgfedmflaaDoor.A

/- Renamed clauses: the program's way, the reference's way. -/
namespace Go.Proofs.YtekehmgfedmflaaDoor.A
open Go
theorem var_eq {σ : Heap} {l : Int} (h : -1152921504606846976 ≤ l ∧ l ≤ 9223372036854775807) : S.lits_Var l σ = some (l.natAbs : Int) := by
  unfold S.lits_Var
  have w : IntKind.i64.wrap (0 - l) = -l := by rw [wrapS] <;> omega
  rw [w]
  congr 1
  split <;> omega

abbrev vIs : Vw (List Int) := Vw.sl .int
end Go.Proofs.YtekehmgfedmflaaDoor.A

/- Literals, checked; the clauses of a formula, its blocks. -/
namespace Go.Proofs.YtekehmgfedmflaaDoor.A
open Go
theorem sk {n : Nat} (h : n < 9223372036854775807 := by omega) : IntKind.i64.wrap ((n : Int) + 1) = ((n + 1 : Nat) : Int) := by rw [wrapS] <;> omega

theorem upto {α : Type} {P : Nat → α → Prop} {xs : List α} {i : Nat} {z : α} (hI : ∀ j a, j < i → xs[j]? = some a → P j a) (hz : xs[i]? = some z) (hp : P i z) : ∀ j a, j < i + 1 → xs[j]? = some a → P j a := fun j a hj ha => by
  rcases Nat.lt_succ_iff_lt_or_eq.1 hj with hj | hj
  · exact hI j a hj ha
  · rw [hj] at ha ⊢; rw [hz] at ha; cases ha; exact hp
/-- Is it a literal? -/
def isL (l vars : Int) : Bool := decide (l ≠ 0) && decide (-vars ≤ l) && decide (l ≤ vars)
theorem isL_iff {l vars : Int} : isL l vars = true ↔ l ≠ 0 ∧ -vars ≤ l ∧ l ≤ vars := by simp [isL, and_assoc]
theorem litsIs_eq {σ : Heap} {l vars : Int} (h0 : -1000000000 ≤ vars) (h1 : vars ≤ 1000000000) : S.lits_Is l vars σ = some (isL l vars) := by
  unfold S.lits_Is isL
  have w : IntKind.i64.wrap (0 - vars) = -vars := by rw [wrapS] <;> omega
  rw [w]
  by_cases h : l = 0
  · subst h; rfl
  · have : (l != 0) = true := by simpa using h
    rw [this]
    by_cases h2 : -vars ≤ l
    · simp [h, h2]
    · simp [h, h2]
theorem indexFunc_w {σ : Heap} {xs : List Int} {x f : AVal} (p : Int → Bool) (hx : SlV .int σ xs x) (hb : xs.length ≤ 4611686018427387904)
    (hf : ∀ n ∈ xs, ∀ {Rt : Type} (K : AVal → Heap → Option Rt), callV S.slices_IndexFunc_int_int.T f [.int .i64 n] σ K = K (.bool (p n)) σ) :
    W (S.slices_IndexFunc_int_int x f σ) fun r => r.2 = σ ∧ r.1 = match xs.findIdx? p with
      | some k => (k : Int)
      | none => -1 := by
  unfold S.slices_IndexFunc_int_int
  repeat' (with_reducible (first | refine W.bind ?_ | refine W.len (by assumption) ?_))
  refine W.loop xs.length (fun i x τ => x = (i : Int) ∧ σ = τ ∧ ∀ j a, j < i → xs[j]? = some a → p a = false) ⟨rfl, rfl, fun j a hj => by omega⟩ fun i x τ hi hI => ?_
  obtain ⟨rfl, rfl, hI⟩ := hI
  unfold S.slices_IndexFunc_int_int.b0
  repeat' (first | (with_reducible (first | refine W.stop ?_ | refine W.ret ?_)) | (with_reducible refine W.cnd (fun hc => ?_) (fun hc => ?_) <;> (try simp only [q1, q2, q3, q4, q5, q6, q7, q8, q9, q10, q11, q12, q13, q14, q15, q16, q17, q18, q19, q20, q21, q22, q23, q24, q25, q26, q27, q28, q29, q30, Kd.ty] at hc) <;> (try (exfalso; omega))))
  · refine W.ixIn hx (by omega) (by omega) fun a ha => ?_
    rw [Int.toNat_natCast] at ha
    refine W.to (hf a (List.mem_of_getElem? ha) _) ?_
    repeat' (first | (with_reducible (first | refine W.next ?_ | refine W.stop ?_ | refine W.ret ?_ | refine W.asB ?_)) | (with_reducible refine W.cnd (fun hc => ?_) (fun hc => ?_) <;> (try simp only [q1, q2, q3, q4, q5, q6, q7, q8, q9, q10, q11, q12, q13, q14, q15, q16, q17, q18, q19, q20, q21, q22, q23, q24, q25, q26, q27, q28, q29, q30, Kd.ty] at hc) <;> (try (exfalso; omega))))
    · refine ⟨rfl, ?_⟩
      have : xs.findIdx? p = some i := by
        rw [List.findIdx?_eq_some_iff_getElem]
        obtain ⟨h1, h2⟩ := List.getElem?_eq_some_iff.1 ha
        refine ⟨h1, by rw [h2]; exact hc, fun j hj => ?_⟩
        have := hI j xs[j] hj (List.getElem?_eq_getElem _)
        simp [this]
      rw [this]
    · refine ⟨by omega, sk, rfl, upto (P := fun _ a => p a = false) hI ha hc⟩
  · refine ⟨rfl, ?_⟩
    have : xs.findIdx? p = none := by
      rw [List.findIdx?_eq_none_iff]
      intro a ha
      obtain ⟨j, hj, e⟩ := List.getElem_of_mem ha
      exact hI j a (by omega) (by rw [List.getElem?_eq_getElem hj, e])
    rw [this]
theorem containsFunc_w {σ : Heap} {xs : List Int} {x f : AVal} (p : Int → Bool) (hx : SlV .int σ xs x) (hb : xs.length ≤ 4611686018427387904)
    (hf : ∀ n ∈ xs, ∀ {Rt : Type} (K : AVal → Heap → Option Rt), callV S.slices_IndexFunc_int_int.T f [.int .i64 n] σ K = K (.bool (p n)) σ) :
    W (S.slices_ContainsFunc_int_int x f σ) fun r => r = (xs.any p, σ) := by
  unfold S.slices_ContainsFunc_int_int
  refine W.call (indexFunc_w p hx hb hf) fun r ⟨h1, h2⟩ => ?_
  obtain ⟨r, τ⟩ := r
  simp only at h1 h2; subst h1
  repeat' (with_reducible refine W.ret ?_)
  cases h : xs.findIdx? p with
  | none =>
    rw [h] at h2; simp only at h2; subst h2
    rw [List.findIdx?_eq_none_iff] at h
    have : xs.any p = false := by rw [List.any_eq_false]; intro a ha; simp [h a ha]
    rw [this]; rfl
  | some k =>
    rw [h] at h2; simp only at h2; subst h2
    rw [List.findIdx?_eq_some_iff_getElem] at h
    obtain ⟨h1, h2, _⟩ := h
    have : xs.any p = true := List.any_eq_true.2 ⟨_, List.getElem_mem h1, h2⟩
    rw [this]
    have : decide ((k : Int) ≥ 0) = true := by simp
    rw [this]

theorem flat_take_le (zs : List (List Int)) (i : Nat) : (zs.take i).flatten.length ≤ zs.flatten.length := take_flat_le zs i
theorem flat_mem {zs : List (List Int)} {z : List Int} (h : z ∈ zs) : z.length ≤ zs.flatten.length := by
  obtain ⟨i, hi, e⟩ := List.getElem_of_mem h
  have h1 := flat_take_le zs (i + 1)
  rw [take_succ_flat (z := z) (by rw [List.getElem?_eq_getElem hi, e]), List.length_append] at h1
  omega

end Go.Proofs.YtekehmgfedmflaaDoor.A

/- Formulas, checked: the program's way, the reference's way. -/
namespace Go.Proofs.YtekehmgfedmflaaDoor.A
open Go
theorem drop_at {α : Type} {xs : List α} {i : Nat} {z : α} (h : xs[i]? = some z) : xs.drop i = z :: xs.drop (i + 1) := by
  obtain ⟨h1, h2⟩ := List.getElem?_eq_some_iff.1 h
  rw [List.drop_eq_getElem_cons h1, h2]

def SeenM (ps : List (Int × AVal)) (seen : List Int) : Prop := ∀ v, (look ps v).getD (.bool false) = .bool (decide (v ∈ seen))
theorem SeenM.put {ps qs : List (Int × AVal)} {seen : List Int} (h : SeenM ps seen) {n : Int} (hq : ∀ k, look qs k = if k = n then some (.bool true) else look ps k) : SeenM qs (seen ++ [n]) := fun v => by
  rw [hq]
  by_cases hv : v = n
  · subst hv; simp
  · rw [if_neg hv, h v]; simp [hv]

theorem MapV.kill {σ : Heap} {l k : Nat} {ps : List (Int × AVal)} (h : MapV σ l ps) (hk : l ≠ k) : MapV (σ.kill k) l ps := ⟨h.lt, by rw [hkill_get, if_neg hk]; exact h.get, h.nodup⟩
end Go.Proofs.YtekehmgfedmflaaDoor.A

/- Copies; free variables; merged blocks, by the reference. -/
namespace Go.Proofs.YtekehmgfedmflaaDoor.A
open Go
section
variable {α β : Type} {v : Vw α} {σ τ : Heap} {xs : List α} {x : AVal} {n0 m : Nat}
theorem Acc.below (h : Acc v n0 σ xs x) : ∀ l off len c, x = .sl l off len c → l < σ.next := fun l off len c e => (h.loc l off len c e).2
/-- A newer list of plain data lies outside of an older object. -/
theorem Acc.aside {w : Vw β} (hw : w.Flat) {ys : List β} {y : AVal} (h : Acc w m τ ys y) (hx : ∀ l off len c, x = .sl l off len c → l < m) : Acc w m (out τ x) ys y := by
  rcases h with h | ⟨l, cs, rfl, h2, h3, h4, h5, h6⟩
  · exact .inl h
  · have hg : (out τ x).get l = τ.get l := by
      cases x with
      | sl k off len c =>
        have := hx k off len c rfl
        show (τ.kill k).get l = _
        rw [hkill_get, if_neg (by omega)]
      | _ => rfl
    exact .inr ⟨l, cs, rfl, h2, by rw [out_next]; exact h3, hg.trans h4, h5, fun i a hi => hw _ _ _ _ (h6 i a hi)⟩
end
/-- Slices from a place on. -/
def Vw.slF {α : Type} (n : Nat) (v : Vw α) : Vw (List α) := ⟨1, fun σ xs us => ∃ x, us = [x] ∧ SlV v σ xs x ∧ ∀ l off len c, x = .sl l off len c → n ≤ l, Nat.one_pos, fun h => by obtain ⟨_, rfl, _⟩ := h; rfl, fun L h => by
  obtain ⟨x, e, h, k⟩ := h
  exact ⟨x, e, h.mono L, k⟩⟩
/-- Data that lie from a place on. -/
def Vw.Over {α : Type} (n : Nat) (v : Vw α) : Prop := ∀ σ τ a us, σ.next ≤ τ.next → (∀ l o, n ≤ l → σ.get l = some o → τ.get l = some o) → v.rel σ a us → v.rel τ a us
theorem Vw.Flat.over {α : Type} {v : Vw α} (h : v.Flat) (n : Nat) : v.Over n := fun σ τ a us _ _ k => h σ τ a us k
theorem Vw.slF_over {α : Type} {v : Vw α} {n : Nat} (h : v.Over n) : (v.slF n).Over n := fun σ τ xs us hn hg k => by
  obtain ⟨x, e, k1, k2⟩ := k
  refine ⟨x, e, ?_, k2⟩
  rcases k1 with k1 | ⟨l, off, c, md, cs, rfl, h2, h3, h4, h5⟩
  · exact .inl k1
  · exact .inr ⟨l, off, c, md, cs, rfl, by omega, hg _ _ (k2 _ _ _ _ rfl) h3, h4, fun i a hi => h _ _ _ _ hn hg (h5 i a hi)⟩
theorem SlV.map {α : Type} {v w : Vw α} (hs : w.sz = v.sz) (hr : ∀ σ a us, v.rel σ a us → w.rel σ a us) {σ : Heap} {xs : List α} {x : AVal} (h : SlV v σ xs x) : SlV w σ xs x := by
  rcases h with h | ⟨l, off, c, md, cs, h1, h2, h3, h4, h5⟩
  · exact .inl h
  · exact .inr ⟨l, off, c, md, cs, h1, h2, by rw [hs]; exact h3, by rw [hs]; exact h4, fun i a hi => by rw [hs]; exact hr _ _ _ (h5 i a hi)⟩
theorem Acc.from {α : Type} {v : Vw α} {σ : Heap} {xs : List α} {x : AVal} {n0 n : Nat} (h : Acc v n0 σ xs x) (hn : n ≤ n0) : ∀ l off len c, x = .sl l off len c → n ≤ l := fun l off len c e => Nat.le_trans hn (h.loc l off len c e).1
def vIsF (n : Nat) : Vw (List Int) := Vw.slF n .int
theorem vIsF_over (n : Nat) : (vIsF n).Over n := Vw.slF_over (Vw.int_flat.over n)
/-! ### Merged blocks -/
theorem W.at {α R : Type} {v : Vw α} {n0 : Nat} {σ : Heap} {xs : List α} {x : AVal} (h : Acc v n0 σ xs x) {i : Nat} {a : α} (hi : xs[i]? = some a) {K : AVal → Option R} {Q : R → Prop}
    (c : ∀ l o us, At σ (.ptr l o) us → v.rel (A.out σ x) a us → (∀ k vs a', k + vs.length ≤ v.sz → v.rel (A.out σ x) a' (us.take k ++ vs ++ us.drop (k + vs.length)) →
      ∃ τ, (∀ {Rt : Type} (K : Heap → Option Rt), stC σ (.ptr l (o + k)) vs K = K τ) ∧ Acc v n0 τ (xs.set i a') x ∧ (∀ σ0 : Heap, σ0.next ≤ n0 → Hle σ0 σ → Hle σ0 τ) ∧ Hle (A.out σ x) (A.out τ x) ∧ τ.next = σ.next) → W (K (.ptr l o)) Q) {sz : Nat} (hs : sz = v.sz := by rfl) :
    W (ixA σ x sz (i : Int) K) Q := by
  subst hs
  obtain ⟨l, o, us, h1, h2, h3, h4⟩ := h.at hi
  exact W.to (h1 K) (c l o us h2 h3 h4)

end Go.Proofs.YtekehmgfedmflaaDoor.A

/- PrefixMerges, as0 plain law. -/
namespace Go.Proofs.YtekehmgfedmflaaDoor.A
open Go
def vars (bs : List (Bool × List Int)) : List Int := (bs.map (·.2)).flatten
end Go.Proofs.YtekehmgfedmflaaDoor.A

/- Free variables: the program's way, the reference's way. -/
namespace Go.Proofs.YtekehmgfedmflaaDoor.A
open Go
/-! ### Rising lists -/
def Rising (xs : List Int) : Prop := xs.Pairwise (· < ·)
/-- The keys of a map. -/
def KeyM (ps : List (Int × AVal)) (P : Int → Prop) : Prop := ∀ v, v ∈ keysOf ps ↔ P v
theorem key_look {ps : List (Int × AVal)} {v : Int} : v ∈ keysOf ps ↔ look ps v ≠ none := by
  have := look_none (ps := ps) (n := v)
  constructor
  · intro h e; exact this.1 e h
  · intro h; exact Classical.byContradiction fun k => h (this.2 k)
theorem KeyM.put {ps qs : List (Int × AVal)} {P : Int → Prop} (h : KeyM ps P) {n : Int} {x : AVal} (hq : ∀ k, look qs k = if k = n then some x else look ps k) : KeyM qs fun v => P v ∨ v = n := fun v => by
  rw [key_look, hq]
  by_cases hv : v = n
  · simp [hv]
  · rw [if_neg hv, ← key_look, h v]; simp [hv]
theorem KeyM.del {ps qs : List (Int × AVal)} {P : Int → Prop} (h : KeyM ps P) {n : Int} (hq : ∀ k, look qs k = if k = n then none else look ps k) : KeyM qs fun v => P v ∧ v ≠ n := fun v => by
  rw [key_look, hq]
  by_cases hv : v = n
  · simp [hv]
  · rw [if_neg hv, ← key_look, h v]; simp [hv]
theorem KeyM.of {ps : List (Int × AVal)} {P Q : Int → Prop} (h : KeyM ps P) (e : ∀ v, P v ↔ Q v) : KeyM ps Q := fun v => (h v).trans (e v)
end Go.Proofs.YtekehmgfedmflaaDoor.A

/- Free variables, by the reference. -/
namespace Go.Proofs.YtekehmgfedmflaaDoor.A
open Go
structure FI (τ ρ : Heap) (V : List Int) (P : Int → Prop) (sx oy : AVal) (N : Nat) (seen outs : List Int) : Prop where
  L : Hle τ ρ
  s : Acc .int τ.next ρ seen sx
  o : Acc .int τ.next (out ρ sx) outs oy
  r : Rising outs
  ms : ∀ v, v ∈ seen ↔ v ∈ V ∨ P v
  mo : ∀ v, v ∈ outs ↔ P v ∧ v ∉ V
  n : seen.length ≤ N
  no : outs.length ≤ N

theorem FI.of {τ ρ : Heap} {V : List Int} {P P' : Int → Prop} {sx oy : AVal} {N N' : Nat} {seen outs : List Int} (h : FI τ ρ V P sx oy N seen outs) (e : ∀ v, P v ↔ P' v) (hN : N ≤ N') : FI τ ρ V P' sx oy N' seen outs :=
  ⟨h.L, h.s, h.o, h.r, fun v => by rw [h.ms, e], fun v => by rw [h.mo, e], Nat.le_trans h.n hN, Nat.le_trans h.no hN⟩

end Go.Proofs.YtekehmgfedmflaaDoor.A

/- The game of a formula: the program's way. -/
namespace Go.Proofs.YtekehmgfedmflaaDoor.A
open Go
theorem clone_w {σ : Heap} {xs : List Int} {x : AVal} (h : SlV .int σ xs x) (hb : xs.length ≤ 1000000) : W (S.slices_Clone_int_int x σ) fun r => Acc .int σ.next r.2 xs r.1 ∧ Hle σ r.2 := by
  obtain ⟨y, τ, e, L, hA⟩ := clone_eq h hb
  exact ⟨_, e, hA, L⟩

theorem litsClone_w {σ : Heap} {cs : List (List Int)} {x : AVal} (hx : SlV vIs σ cs x) (hb : cs.length ≤ 1000000000) (hcl : ∀ c ∈ cs, c.length ≤ 1000000) : W (S.lits_Clone x σ) fun r => Hle σ r.2 ∧ Acc (vIsF σ.next) σ.next r.2 cs r.1 := by
  unfold S.lits_Clone
  repeat' (with_reducible refine W.len (by assumption) ?_)
  refine W.mk0 (vIsF σ.next) (by omega) (by omega) fun y τ L hA => ?_
  have hx' := hx.mono L
  repeat' (with_reducible (first | refine W.bind ?_ | refine W.len (by assumption) ?_))
  refine W.loop cs.length (fun i y τ => y.2 = (i : Int) ∧ Hle σ τ ∧ Acc (vIsF σ.next) σ.next τ (cs.take i) y.1) ⟨rfl, L, by simpa using hA⟩ fun i y τ hi hI => ?_
  obtain ⟨y, j⟩ := y
  obtain ⟨rfl, L, hA⟩ := hI
  unfold S.lits_Clone.b0
  dsimp only
  (with_reducible refine W.cnd (fun hc => ?_) (fun hc => ?_) <;> (try simp only [q1, q2, q3, q4, q5, q6, q7, q8, q9, q10, q11, q12, q13, q14, q15, q16, q17, q18, q19, q20, q21, q22, q23, q24, q25, q26, q27, q28, q29, q30, Kd.ty] at hc) <;> (try (exfalso; omega)))
  · refine W.ixLS hx L (by omega) fun c w hci hw => ?_
    refine W.call (clone_w (hw.mono L) (hcl c (List.mem_of_getElem? hci))) fun r hr => ?_
    obtain ⟨z, τ2⟩ := r
    obtain ⟨hz, L2⟩ := hr
    dsimp only at hz L2 ⊢
    have hnx := L.next
    refine W.scalS hz.sl (W.push (hA.mono L2) (L.mono L2) (cs := [z]) (a := c) ⟨z, rfl, (hz.aside Vw.int_flat hA.below).sl, hz.from (by omega)⟩ (by simp; omega) (by simp; omega) fun y' τ3 L3 hA3 _ => ?_)
    repeat' (with_reducible refine W.next ?_)
    exact ⟨by omega, sk, L3, by rw [List.take_add_one, hci]; exact hA3⟩
  · repeat' (with_reducible (first | refine W.stop ?_ | refine W.ret ?_))
    rw [List.take_of_length_le (by omega)] at hA
    exact ⟨L, hA⟩

/-! ### Games -/
abbrev Gm := Bool × List Int × List Int × List (List Int)
/-- A game's cells. -/
def GmV (σ : Heap) (g : Gm) (us : List AVal) : Prop := ∃ o i c, us = [.bool g.1, o, i, c] ∧ SlV .int σ g.2.1 o ∧ SlV .int σ g.2.2.1 i ∧ SlV vIs σ g.2.2.2 c
theorem GmV.mono {σ τ : Heap} {g : Gm} {us : List AVal} (h : GmV σ g us) (L : Hle σ τ) : GmV τ g us := by
  obtain ⟨o, i, c, e, h1, h2, h3⟩ := h
  exact ⟨o, i, c, e, h1.mono L, h2.mono L, h3.mono L⟩
theorem Acc.one {α : Type} {v : Vw α} {σ τ : Heap} {a : α} {us : List AVal} {l n0 : Nat} (hl : l = σ.next) (hg : τ.get l = some (.cells .rw v.sz us)) (hn : τ.next = σ.next + 1) (L : Hle σ τ) (h : v.rel σ a us) (h0 : n0 ≤ σ.next) : Acc v n0 τ [a] (.sl l 0 1 none) :=
  .inr ⟨l, us, rfl, by omega, by omega, hg, by rw [v.len h]; simp, fun i b hi => by
    match i, hi with
    | 0, hi =>
      cases hi
      have : (us.drop (0 * v.sz)).take v.sz = us := by rw [Nat.zero_mul, List.drop_zero]; exact List.take_of_length_le (by rw [v.len h]; exact Nat.le_refl _)
      rw [this]
      exact v.mono (L.kill (by omega)) h
    | k + 1, hi => simp at hi⟩

theorem IsE.kill {σ : Heap} {v : AVal} {e : Er} {k : Nat} {cs : List AVal} (h : IsE σ v e) (hk : Loc σ k cs) : IsE (σ.kill k) v e := by
  obtain ⟨h1, h2, j, rfl, h4, h5⟩ := h
  obtain ⟨sz, e1⟩ := hk.get
  have n1 : e.g ≠ k := fun e => by rw [e, e1] at h2; cases h2
  have n2 : j ≠ k := fun e => by rw [e, e1] at h5; cases h5
  exact ⟨h1, by rw [hkill_get, if_neg n1]; exact h2, j, rfl, h4, by rw [hkill_get, if_neg n2]; exact h5⟩
theorem IsF.kill {σ : Heap} {v : AVal} {f : Flt} {k : Nat} {b : Bool} {cs : List AVal} (h : IsF σ v f) (hk : Loc σ k (.bool b :: cs)) : IsF (σ.kill k) v f := by
  match f, h with
  | none, h => exact h
  | some (e, none), h => exact IsE.kill h hk
  | some (e, some pos), h =>
    obtain ⟨l, u, h1, h2, h3⟩ := h
    refine ⟨l, u, h1, h2.kill fun o ho => ?_, h3.kill hk⟩
    cases ho
    have c1 := h2.cell (k := 0) rfl
    have c2 := hk.at.cell (k := 0) rfl
    rw [c1] at c2
    cases c2

end Go.Proofs.YtekehmgfedmflaaDoor.A

/- Clauses in normal form: the program's way. -/
namespace Go.Proofs.YtekehmgfedmflaaDoor.A
open Go
theorem set_set (τ : Heap) (l : Nat) (a b : AObj) : (τ.set l a).set l b = τ.set l b := by
  simp only [Heap.set, Heap.mk.injEq, true_and]
  funext k
  by_cases h : k = l <;> simp [h]
theorem set_self {τ : Heap} {l : Nat} {o : AObj} (h : τ.get l = some o) : τ.set l o = τ := by
  cases τ with
  | mk n g =>
    simp only [Heap.set, Heap.mk.injEq, true_and]
    funext k
    by_cases e : k = l
    · subst e; rw [if_pos rfl]; exact h.symm
    · rw [if_neg e]
theorem get_set (τ : Heap) (l : Nat) (o : AObj) : (τ.set l o).get l = some o := by rw [hset_get, if_pos rfl]

section
variable {R : Type} {τ : Heap} {l off len : Nat} {c : Option Nat} {cs : List AVal} {Q : R → Prop}
theorem W.rd1 (hg : τ.get l = some (.cells .rw 1 cs)) {i : Int} (h0 : 0 ≤ i) (h1 : i < len) {a : Int} (hk : cs[off + i.toNat]? = some (AVal.int .i64 a)) {K : Int → Option R} (k : W (K a) Q) : W (ixA τ (.sl l off len c) 1 i fun p => ld τ p (.I .i64) K) Q := by
  refine W.to ?_ k
  simp only [ixA, hg]
  rw [if_pos ⟨trivial, h0, h1⟩, Nat.mul_one]
  simp [ld, Heap.cell, hg, hk, asK]
theorem W.wr1 (hg : τ.get l = some (.cells .rw 1 cs)) {i : Int} (h0 : 0 ≤ i) (h1 : i < len) (hlen : off + i.toNat < cs.length) {a : AVal} {K : Heap → Option R} (k : W (K (τ.set l (.cells .rw 1 (cs.set (off + i.toNat) a)))) Q) : W (ixA τ (.sl l off len c) 1 i fun p => stC τ p [a] K) Q := by
  refine W.to ?_ k
  simp only [ixA, hg]
  rw [if_pos ⟨trivial, h0, h1⟩, Nat.mul_one]
  simp only [stC, hg, List.length_singleton]
  rw [if_pos (by omega)]
  congr 4
  rw [List.set_eq_take_append_cons_drop, if_pos hlen]
  simp
end
theorem sortF_w {O : FuncId} {n0 : Nat} {τ : Heap} {xs : List Int} {y : AVal} (hA : Acc .int n0 τ xs y) (hb : xs.all inB = true) (hl : xs.length ≤ 1000000000) :
    W (sortFS O y (.fn (.func O) [] []) τ) fun r => Acc .int n0 r.2 (sortedO xs) y ∧ ∀ σ0 : Heap, σ0.next ≤ n0 → Hle σ0 τ → Hle σ0 r.2 := by
  unfold sortFS
  simp only [if_true]
  rcases hA with ⟨rfl, rfl⟩ | ⟨l, cs, rfl, h2, h3, h4, h5, h6⟩
  · exact W.ret ⟨.inl ⟨rfl, by simp [sortedO]⟩, fun σ0 _ L => L⟩
  · simp only []
    by_cases h0 : xs.length = 0
    · rw [if_pos h0]
      have : xs = [] := List.eq_nil_of_length_eq_zero h0
      subst this
      refine W.ret ⟨.inr ⟨l, cs, by simp [sortedO], h2, h3, h4, by simp [sortedO], fun i a hi => by simp [sortedO] at hi⟩, fun σ0 _ L => L⟩
    · rw [if_neg h0]
      have h4' : τ.get l = some (.cells .rw 1 cs) := h4
      have h5' : xs.length ≤ cs.length := by simpa [Vw.int] using h5
      simp only [h4']
      rw [if_pos ⟨by omega, by omega⟩]
      have hc : (cs.drop 0).take xs.length = xs.map (AVal.int .i64) := by
        rw [List.drop_zero]
        apply List.ext_getElem? fun i => ?_
        by_cases hi : i < xs.length
        · have := h6 i xs[i] (List.getElem?_eq_getElem hi)
          have this : (cs.drop (i * 1)).take 1 = [.int .i64 xs[i]] := this
          rw [Nat.mul_one] at this
          rw [List.getElem?_take_of_lt hi, List.getElem?_map, List.getElem?_eq_getElem hi, Option.map_some]
          have h7 : ((cs.drop i).take 1)[0]? = some (AVal.int .i64 xs[i]) := by rw [this]; rfl
          rw [List.getElem?_take_of_lt (by omega), List.getElem?_drop] at h7
          simpa using h7
        · rw [List.getElem?_eq_none (by simp; omega), List.getElem?_eq_none (by simp; omega)]
      rw [hc, intsL_map]
      simp only [hb, if_true]
      have hsl := sortedO_len xs
      refine W.ret ⟨.inr ⟨l, _, by rw [hsl], h2, h3, get_set _ _ _, by first | (simp [Vw.int]; done) | (simp [Vw.int]; omega), fun i a hi => ?_⟩, fun σ0 hn L => L.set (by omega) _⟩
      show _ = _
      have hi' := (List.getElem?_eq_some_iff.1 hi).1
      simp only [Vw.int, Nat.mul_one, List.take_zero, List.nil_append]
      rw [List.drop_append_of_le_length (by simp; omega), List.take_append_of_le_length (by simp; omega)]
      rw [List.drop_eq_getElem_cons (by simpa using hi')]
      obtain ⟨h8, h9⟩ := List.getElem?_eq_some_iff.1 hi
      simp [h9]

theorem take_getLast {xs : List Int} {i : Nat} {a : Int} (h : xs[i]? = some a) : (xs.take (i + 1)).getLast? = some a := by
  rw [List.take_add_one, h]; simp
theorem take_snoc {xs : List Int} {i : Nat} {a : Int} (h : xs[i]? = some a) : xs.take (i + 1) = xs.take i ++ [a] := by rw [List.take_add_one, h]; rfl

theorem compact_in {τ : Heap} {l k0 n : Nat} {cs0 : List AVal} {xs : List Int} (hn : xs.length = n) (hcl : n ≤ cs0.length) (hk0 : 0 < k0) (hk1 : k0 < n) (hnl : n ≤ 1000000000) (hd : xs[k0]? = xs[k0 - 1]?) (hR : compactL (xs.take k0) = xs.take k0)
    (hcs : ∀ (j : Nat) (a : Int), xs[j]? = some a → cs0[j]? = some (AVal.int .i64 a)) (hg : τ.get l = some (.cells .rw 1 cs0)) :
    W (loopW (S.slices_Compact_int_int.b0 (.sl l 0 n none) (.sl l k0 (n - k0) none)) ((k0 : Int), 1) τ) fun r => r.1 = ((compactL xs).length : Int) ∧ ∃ cs : List AVal, r.2 = τ.set l (.cells .rw 1 cs) ∧ cs.length = cs0.length ∧ cs.take (compactL xs).length = (compactL xs).map (AVal.int .i64) := by
  have hinit : compactL (xs.take (k0 + 1)) = xs.take k0 := by
    obtain ⟨a, ha⟩ : ∃ a, xs[k0]? = some a := ⟨_, List.getElem?_eq_getElem (by omega)⟩
    rw [take_snoc ha, compactL_push, hR]
    have : (xs.take k0).getLast? = some a := by
      have h1 := take_getLast (xs := xs) (i := k0 - 1) (a := a) (by rw [← hd, ha])
      rwa [show k0 - 1 + 1 = k0 by omega] at h1
    rw [if_pos this]
  refine W.loop (n - k0 - 1) (fun i (y : Int × Int) τ' => ∃ cs : List AVal, y = (((compactL (xs.take (k0 + 1 + i))).length : Int), (i : Int) + 1) ∧ τ' = τ.set l (.cells .rw 1 cs) ∧ cs.length = cs0.length ∧ (compactL (xs.take (k0 + 1 + i))).length ≤ k0 + i ∧
    cs.take (compactL (xs.take (k0 + 1 + i))).length = (compactL (xs.take (k0 + 1 + i))).map (AVal.int .i64) ∧ ∀ (j : Nat) (a : Int), k0 + i ≤ j → xs[j]? = some a → cs[j]? = some (AVal.int .i64 a))
    ⟨cs0, ?_, (set_self hg).symm, rfl, ?_, ?_, fun j a _ h => hcs j a h⟩ fun i y τ' hi hI => ?_
  · rw [Nat.add_zero, hinit]; simp; omega
  · rw [Nat.add_zero, hinit]; simp; omega
  · rw [Nat.add_zero, hinit]
    apply List.ext_getElem? fun j => ?_
    by_cases hj : j < k0
    · have hx := List.getElem?_eq_getElem (l := xs) (i := j) (by omega)
      rw [List.getElem?_take_of_lt (by simp; omega), List.getElem?_map, List.getElem?_take_of_lt hj, hx, Option.map_some]
      exact hcs j _ hx
    · rw [List.getElem?_eq_none (by simp; omega), List.getElem?_eq_none (by simp; omega)]
  · obtain ⟨cs, rfl, rfl, hl, hk, ht, hr⟩ := hI
    have sk3 : IntKind.i64.wrap ((i : Int) + 1 + 1) = ((i + 1 : Nat) : Int) + 1 := by rw [wrapS] <;> omega
    unfold S.slices_Compact_int_int.b0
    simp only [lenV]
    (with_reducible refine W.cnd (fun hc => ?_) (fun hc => ?_) <;> (try simp only [q1, q2, q3, q4, q5, q6, q7, q8, q9, q10, q11, q12, q13, q14, q15, q16, q17, q18, q19, q20, q21, q22, q23, q24, q25, q26, q27, q28, q29, q30, Kd.ty] at hc) <;> (try (exfalso; omega)))
    · obtain ⟨a, ha⟩ : ∃ a, xs[k0 + 1 + i]? = some a := ⟨_, List.getElem?_eq_getElem (by omega)⟩
      obtain ⟨b, hb⟩ : ∃ b, xs[k0 + i]? = some b := ⟨_, List.getElem?_eq_getElem (by omega)⟩
      have hpush : compactL (xs.take (k0 + 1 + (i + 1))) = if b = a then compactL (xs.take (k0 + 1 + i)) else compactL (xs.take (k0 + 1 + i)) ++ [a] := by
        rw [← Nat.add_assoc, take_snoc ha, compactL_push]
        have := take_getLast hb
        rw [show k0 + i + 1 = k0 + 1 + i by omega] at this
        rw [this]; simp
      have w : IntKind.i64.wrap ((i : Int) + 1 - 1) = i := by rw [wrapS] <;> omega
      repeat' (with_reducible refine W.bind ?_)
      refine W.rd1 (get_set _ _ _) (by omega) (by omega) (a := a) (by rw [show k0 + ((i : Int) + 1).toNat = k0 + 1 + i by omega]; exact hr _ _ (by omega) ha) ?_
      rw [w]
      refine W.rd1 (get_set _ _ _) (by omega) (by omega) (a := b) (by rw [show k0 + ((i : Int)).toNat = k0 + i by omega]; exact hr _ _ (by omega) hb) ?_
      rw [hpush]
      (with_reducible refine W.cnd (fun hq => ?_) (fun hq => ?_) <;> (try simp only [q1, q2, q3, q4, q5, q6, q7, q8, q9, q10, q11, q12, q13, q14, q15, q16, q17, q18, q19, q20, q21, q22, q23, q24, q25, q26, q27, q28, q29, q30, Kd.ty] at hq) <;> (try (exfalso; omega)))
      · refine W.rd1 (get_set _ _ _) (by omega) (by omega) (a := a) (by rw [show k0 + ((i : Int) + 1).toNat = k0 + 1 + i by omega]; exact hr _ _ (by omega) ha) ?_
        refine W.wr1 (get_set _ _ _) (by omega) (by omega) (by omega) ?_
        rw [set_set, if_neg (fun e => hq e.symm)]
        repeat' (with_reducible (first | refine W.next ?_ | refine W.ret ?_))
        rw [Nat.zero_add, Int.toNat_natCast]
        refine ⟨by omega, _, ?_, rfl, by simp [hl], by simp; omega, ?_, fun j c hj hc => ?_⟩
        · rw [sk3, sk]; simp
        · rw [List.length_append, List.length_singleton, List.map_append, List.take_add_one, List.take_set_of_le (by omega), ht, List.getElem?_set_self (by omega)]; rfl
        · rw [List.getElem?_set_ne (by omega)]; exact hr j c (by omega) hc
      · subst hq
        repeat' (with_reducible (first | refine W.next ?_ | refine W.ret ?_))
        rw [if_pos rfl]
        exact ⟨by omega, cs, by rw [sk3], rfl, hl, by omega, ht, fun j c hj hc => hr j c (by omega) hc⟩
    · repeat' (with_reducible refine W.stop ?_)
      have : xs.take (k0 + 1 + i) = xs := List.take_of_length_le (by omega)
      rw [this] at ht
      rw [this]
      exact ⟨rfl, cs, rfl, hl, ht⟩

/-- Neighbours have other variables. -/
def adj : List Int → Bool
  | x :: y :: t => decide (x.natAbs ≠ y.natAbs) && adj (y :: t)
  | _ => true
def saysN (c : List Int) : Bool := adj (normL c)

/-- A list of plain cells, from a place on. -/
def Fresh (n0 : Nat) (τ : Heap) (xs : List Int) (y : AVal) : Prop := SlV .int τ xs y ∧ ∀ l off len c, y = .sl l off len c → n0 ≤ l

/-- Plain cells of one's own, from a place on. -/
def FreshO (n0 : Nat) (τ : Heap) (xs : List Int) (y : AVal) : Prop := (y = .nils ∧ xs = []) ∨ ∃ l off c cs, y = .sl l off xs.length c ∧ n0 ≤ l ∧ l < τ.next ∧ τ.get l = some (.cells .rw Vw.int.sz cs) ∧
  (∀ k, c = some k → (off + k) * Vw.int.sz ≤ cs.length) ∧ (off + xs.length) * Vw.int.sz ≤ cs.length ∧ ∀ i a, xs[i]? = some a → Vw.int.rel τ a ((cs.drop ((off + i) * Vw.int.sz)).take Vw.int.sz)
theorem FreshO.fresh {n0 : Nat} {τ : Heap} {xs : List Int} {y : AVal} (h : FreshO n0 τ xs y) : Fresh n0 τ xs y := by
  rcases h with ⟨rfl, rfl⟩ | ⟨l, off, c, cs, rfl, h1, h2, h3, _, h4, h5⟩
  · exact ⟨.inl ⟨rfl, rfl⟩, fun l off len c e => by cases e⟩
  · exact ⟨.inr ⟨l, off, c, .rw, cs, rfl, h2, h3, h4, h5⟩, fun l' off' len c' e => by cases e; exact h1⟩
theorem Acc.freshO {n0 : Nat} {τ : Heap} {xs : List Int} {y : AVal} (h : Acc .int n0 τ xs y) : FreshO n0 τ xs y := by
  rcases h with h | ⟨l, cs, rfl, h2, h3, h4, h5, h6⟩
  · exact .inl h
  · exact .inr ⟨l, 0, none, cs, rfl, h2, h3, h4, fun k e => (by cases e), by simpa using h5, fun i a hi => by rw [Nat.zero_add]; exact h6 i a hi⟩

theorem compact_w {n0 : Nat} {τ : Heap} {xs : List Int} {y : AVal} (hA : Acc .int n0 τ xs y) (hl : xs.length ≤ 1000000000) :
    W (S.slices_Compact_int_int y τ) fun r => FreshO n0 r.2 (compactL xs) r.1 ∧ ∀ σ0 : Heap, σ0.next ≤ n0 → Hle σ0 τ → Hle σ0 r.2 := by
  unfold S.slices_Compact_int_int
  rw [hA.len]
  (with_reducible refine W.cnd (fun hc => ?_) (fun hc => ?_) <;> (try simp only [q1, q2, q3, q4, q5, q6, q7, q8, q9, q10, q11, q12, q13, q14, q15, q16, q17, q18, q19, q20, q21, q22, q23, q24, q25, q26, q27, q28, q29, q30, Kd.ty] at hc) <;> (try (exfalso; omega)))
  · repeat' (with_reducible refine W.ret ?_)
    have : compactL xs = xs := by
      match xs, hc with
      | [], _ => rfl
      | [x], _ => rfl
      | x :: y :: t, h => simp at h; omega
    rw [this]
    exact ⟨hA.freshO, fun σ0 _ L => L⟩
  · rcases hA with ⟨rfl, rfl⟩ | ⟨l, cs, rfl, h2, h3, h4, h5, h6⟩
    · simp at hc
    · have h4' : τ.get l = some (.cells .rw 1 cs) := h4
      have h5' : xs.length ≤ cs.length := by simpa [Vw.int] using h5
      have hcs : ∀ (j : Nat) (a : Int), xs[j]? = some a → cs[j]? = some (AVal.int .i64 a) := fun j a ha => by
        have := h6 j a ha
        have this : (cs.drop (j * 1)).take 1 = [AVal.int .i64 a] := this
        have h7 : ((cs.drop (j * 1)).take 1)[0]? = some (AVal.int .i64 a) := by rw [this]; rfl
        rw [List.getElem?_take_of_lt (by omega), List.getElem?_drop] at h7
        simpa using h7
      have hlt : ∀ j, j < xs.length → ∃ a, xs[j]? = some a := fun j hj => ⟨_, List.getElem?_eq_getElem hj⟩
      repeat' (with_reducible refine W.bind ?_)
      refine W.loop (xs.length - 1) (fun i y τ' => y = (i : Int) + 1 ∧ τ = τ' ∧ compactL (xs.take (i + 1)) = xs.take (i + 1)) ⟨rfl, rfl, by
        match xs, hc with
        | x :: t, _ => rfl⟩ fun i y τ' hi hI => ?_
      obtain ⟨rfl, rfl, hR⟩ := hI
      have w : IntKind.i64.wrap ((i : Int) + 1 - 1) = i := by rw [wrapS] <;> omega
      have sk3 : IntKind.i64.wrap ((i : Int) + 1 + 1) = ((i + 1 : Nat) : Int) + 1 := by rw [wrapS] <;> omega
      unfold S.slices_Compact_int_int.b1
      simp only [lenV]
      (with_reducible refine W.cnd (fun hq => ?_) (fun hq => ?_) <;> (try simp only [q1, q2, q3, q4, q5, q6, q7, q8, q9, q10, q11, q12, q13, q14, q15, q16, q17, q18, q19, q20, q21, q22, q23, q24, q25, q26, q27, q28, q29, q30, Kd.ty] at hq) <;> (try (exfalso; omega)))
      · obtain ⟨a, ha⟩ := hlt (i + 1) (by omega)
        obtain ⟨b, hb⟩ := hlt i (by omega)
        refine W.rd1 h4' (by omega) (by omega) (a := a) (by rw [show 0 + ((i : Int) + 1).toNat = i + 1 by omega]; exact hcs _ _ ha) ?_
        rw [w]
        refine W.rd1 h4' (by omega) (by omega) (a := b) (by rw [show 0 + (i : Int).toNat = i by omega]; exact hcs _ _ hb) ?_
        (with_reducible refine W.cnd (fun he => ?_) (fun he => ?_) <;> (try simp only [q1, q2, q3, q4, q5, q6, q7, q8, q9, q10, q11, q12, q13, q14, q15, q16, q17, q18, q19, q20, q21, q22, q23, q24, q25, q26, q27, q28, q29, q30, Kd.ty] at he) <;> (try (exfalso; omega)))
        · subst he
          have hsl : ∀ {R : Type} (K : AVal → Option R), slS τ 1 (.sl l 0 xs.length none) ((i : Int) + 1) none none K = K (.sl l (i + 1) (xs.length - (i + 1)) none) := fun K => by
            simp only [slS, h4']
            rw [if_pos ⟨trivial, by omega, by simp; omega, by simp, by simp, by simp⟩]
            have : ((i : Int) + 1).toNat = i + 1 := by omega
            simp [this, clipTo]
          refine W.to (hsl _) ?_
          repeat' (with_reducible refine W.bind ?_)
          have hin := compact_in (τ := τ) (l := l) (k0 := i + 1) rfl h5' (by omega) (by omega) hl (by rw [ha]; simpa using hb.symm) hR hcs h4'
          refine W.mono hin fun r hr => ?_
          obtain ⟨k, τ2⟩ := r
          obtain ⟨e, cs2, e2, hl2, ht⟩ := hr
          dsimp only at e e2 ⊢
          subst e e2
          have hlen := compactL_len xs
          have hsl2 : ∀ {R : Type} (K : AVal → Option R), slS (τ.set l (.cells .rw 1 cs2)) 1 (.sl l 0 xs.length none) ((compactL xs).length : Int) none none K = K (.sl l (compactL xs).length (xs.length - (compactL xs).length) none) := fun K => by
            simp only [slS, get_set]
            rw [if_pos ⟨trivial, by omega, by simp; omega, by simp, by simp, by simp⟩]
            simp [clipTo]
          refine W.to (hsl2 _) ?_
          have hclr : ∃ cs3 : List AVal, cs3.length = cs2.length ∧ cs3.take (compactL xs).length = cs2.take (compactL xs).length ∧ ∀ {R : Type} (K : Heap → Option R), clearK (τ.set l (.cells .rw 1 cs2)) 1 [AVal.int .i64 0] (.sl l (compactL xs).length (xs.length - (compactL xs).length) none) K = K (τ.set l (.cells .rw 1 cs3)) := by
            have hrl : ∀ n : Nat, (rep n [AVal.int .i64 0]).length = n := fun n => by
              induction n with
              | zero => rfl
              | succ n ih => simp [rep, ih]
            by_cases h0 : xs.length - (compactL xs).length = 0
            · exact ⟨cs2, rfl, rfl, fun K => by simp only [clearK, if_pos h0]⟩
            · refine ⟨cs2.take (compactL xs).length ++ rep (xs.length - (compactL xs).length) [AVal.int .i64 0] ++ cs2.drop ((compactL xs).length + (xs.length - (compactL xs).length)), ?_, ?_, fun K => ?_⟩
              · simp [hrl]; omega
              · rw [List.append_assoc, List.take_append_of_le_length (by simp; omega), List.take_take, Nat.min_self]
              · simp only [clearK, if_neg h0, get_set, if_true, Nat.mul_one, stC, hrl]
                rw [if_pos (by omega), set_set]
          obtain ⟨cs3, hl3, ht3, e3⟩ := hclr
          refine W.to (e3 _) ?_
          have hsl4 : ∀ {R : Type} (K : AVal → Option R), slS (τ.set l (.cells .rw 1 cs3)) 1 (.sl l 0 xs.length none) 0 (some ((compactL xs).length : Int)) none K = K (.sl l 0 (compactL xs).length none) := fun K => by
            simp only [slS, get_set]
            rw [if_pos ⟨trivial, by omega, by simp, by simp; omega, by simp, by simp⟩]
            simp [clipTo]
          refine W.to (hsl4 _) ?_
          repeat' (with_reducible (first | refine W.stop ?_ | refine W.ret ?_))
          refine ⟨.inr ⟨l, 0, none, cs3, rfl, h2, h3, get_set _ _ _, fun k e => (by cases e), by simp [Vw.int]; omega, fun i a hi => ?_⟩, fun σ0 hn L => L.set (by omega) _⟩
          show _ = _
          have hi' := (List.getElem?_eq_some_iff.1 hi).1
          rw [ht] at ht3
          have h7 : (cs3.take (compactL xs).length)[i]? = some (AVal.int .i64 a) := by rw [ht3, List.getElem?_map, hi]; rfl
          rw [List.getElem?_take_of_lt hi'] at h7
          simp only [Vw.int, Nat.mul_one, Nat.zero_add]
          obtain ⟨h8, h9⟩ := List.getElem?_eq_some_iff.1 h7
          rw [List.drop_eq_getElem_cons h8, h9]; rfl
        · repeat' (with_reducible refine W.next ?_)
          refine ⟨by omega, sk3, rfl, ?_⟩
          rw [take_snoc ha, compactL_push, take_getLast hb, if_neg (fun e => he (Option.some.inj e).symm), hR]
      · repeat' (with_reducible (first | refine W.stop ?_ | refine W.ret ?_))
        have : xs.take (i + 1) = xs := List.take_of_length_le (by omega)
        rw [this] at hR
        rw [hR]
        have hA : Acc .int n0 τ xs (.sl l 0 xs.length none) := .inr ⟨l, cs, rfl, h2, h3, h4, h5, h6⟩
        exact ⟨hA.freshO, fun σ0 _ L => L⟩

theorem adj_drop {xs : List Int} {i : Nat} {a b : Int} (ha : xs[i]? = some a) (hb : xs[i + 1]? = some b) : adj (xs.drop i) = (decide (a.natAbs ≠ b.natAbs) && adj (xs.drop (i + 1))) := by
  rw [drop_at ha, drop_at hb]; rfl
theorem normO_w {σ : Heap} {c : List Int} {x : AVal} (hx : SlV .int σ c x) (hb : c.all inB = true) (hl : c.length ≤ 1000000) : W (S.lits_Norm x σ) fun r => r.1.2 = saysN c ∧ Hle σ r.2 ∧ FreshO σ.next r.2 (normL c) r.1.1 := by
  unfold S.lits_Norm
  refine W.call (clone_w hx hl) fun r hr => ?_
  obtain ⟨y, τ⟩ := r
  obtain ⟨hy, L⟩ := hr
  dsimp only at hy L ⊢
  refine W.call (sortF_w hy hb (by omega)) fun r hr => ?_
  obtain ⟨u, τ2⟩ := r
  obtain ⟨hy2, F2⟩ := hr
  dsimp only at hy2 F2 ⊢
  replace L := F2 σ (Nat.le_refl _) L
  have hsl := sortedO_len c
  refine W.call (compact_w hy2 (by omega)) fun r hr => ?_
  obtain ⟨z, τ3⟩ := r
  obtain ⟨hz, F3⟩ := hr
  dsimp only at hz F3 ⊢
  replace L := F3 σ (Nat.le_refl _) L
  have hz : FreshO σ.next τ3 (normL c) z := hz
  have hnl := normL_len c
  have hclip : W (S.slices_Clip_int_int z τ3) fun w => FreshO σ.next τ3 (normL c) w := by
    unfold S.slices_Clip_int_int
    skip
    rcases hz with ⟨rfl, e⟩ | ⟨l, off, cc, cs, rfl, k1, k2, k3, k6, k4, k5⟩
    · rw [e]
      exact W.to (by simp [slS, lenV]) (W.ret (.inl ⟨rfl, rfl⟩))
    · have hs : ∀ {R : Type} (K : AVal → Option R), slS τ3 1 (.sl l off (normL c).length cc) 0 (some ((normL c).length : Int)) (some ((normL c).length : Int)) K = K (.sl l off (normL c).length (some (normL c).length)) := fun K => by
        have k3 : τ3.get l = some (.cells .rw 1 cs) := k3
        simp only [slS, k3]
        rw [if_pos ⟨trivial, by omega, by simp, by simp, by simp, by simp⟩]
        simp [clipTo]
      exact W.to (hs _) (W.ret (.inr ⟨l, off, _, cs, rfl, k1, k2, k3, fun k e => (by cases e; exact k4), k4, k5⟩))
  refine W.call hclip fun w hwO => ?_
  obtain ⟨hw, hwf⟩ := hwO.fresh
  repeat' (with_reducible refine W.bind ?_)
  unfold saysN
  refine W.loopP ((normL c).length - 1) (fun i y => y = (i : Int) + 1 ∧ adj (normL c) = adj ((normL c).drop i)) ⟨rfl, by simp⟩ fun i y hi hI => ?_
  obtain ⟨rfl, hI⟩ := hI
  have wi : IntKind.i64.wrap ((i : Int) + 1 - 1) = i := by rw [wrapS] <;> omega
  have sk3 : IntKind.i64.wrap ((i : Int) + 1 + 1) = ((i + 1 : Nat) : Int) + 1 := by rw [wrapS] <;> omega
  unfold S.lits_Norm.b0
  repeat' (with_reducible refine W.len (by assumption) ?_)
  have hin : ∀ v ∈ normL c, -1152921504606846976 ≤ v ∧ v ≤ 9223372036854775807 := fun v hv => by
    rw [normL_mem] at hv
    have := List.all_eq_true.1 hb v hv
    simp [inB] at this; omega
  (with_reducible refine W.cnd (fun hc => ?_) (fun hc => ?_) <;> (try simp only [q1, q2, q3, q4, q5, q6, q7, q8, q9, q10, q11, q12, q13, q14, q15, q16, q17, q18, q19, q20, q21, q22, q23, q24, q25, q26, q27, q28, q29, q30, Kd.ty] at hc) <;> (try (exfalso; omega)))
  · obtain ⟨a, ha⟩ : ∃ a, (normL c)[i]? = some a := ⟨_, List.getElem?_eq_getElem (by omega)⟩
    obtain ⟨b, hb'⟩ : ∃ b, (normL c)[i + 1]? = some b := ⟨_, List.getElem?_eq_getElem (by omega)⟩
    rw [adj_drop ha hb'] at hI
    refine W.ixI hw (a := b) (by rw [show ((i : Int) + 1).toNat = i + 1 by omega]; exact hb') (by omega) ?_
    refine W.eqn (var_eq (hin b (List.mem_of_getElem? hb'))) ?_
    rw [wi]
    refine W.ixIc hw ha ?_
    refine W.eqn (var_eq (hin a (List.mem_of_getElem? ha))) ?_
    (with_reducible refine W.cnd (fun he => ?_) (fun he => ?_) <;> (try simp only [q1, q2, q3, q4, q5, q6, q7, q8, q9, q10, q11, q12, q13, q14, q15, q16, q17, q18, q19, q20, q21, q22, q23, q24, q25, q26, q27, q28, q29, q30, Kd.ty] at he) <;> (try (exfalso; omega)))
    · repeat' (with_reducible (first | refine W.stopP ?_ | refine W.ret ?_))
      refine ⟨?_, L, hwO⟩
      rw [hI]
      have : a.natAbs = b.natAbs := by omega
      simp [this]
    · repeat' (with_reducible refine W.nextP ?_)
      refine ⟨by omega, sk3, ?_⟩
      rw [hI]
      have : a.natAbs ≠ b.natAbs := by omega
      simp [this]
  · repeat' (with_reducible (first | refine W.stopP ?_ | refine W.ret ?_))
    refine ⟨?_, L, hwO⟩
    rw [hI]
    match h : (normL c).drop i with
    | [] => rfl
    | [x] => rfl
    | x :: y :: t =>
      have := congrArg List.length h
      simp at this; omega
end Go.Proofs.YtekehmgfedmflaaDoor.A

/- What follows of literals at once; values. -/
namespace Go.Proofs.YtekehmgfedmflaaDoor.A
open Go
/-- What follows at once of literals and clauses. -/
inductive Der (C : List (List Int)) (s : List Int) : Int → Prop where
  | start {l : Int} : l ∈ s → Der C s l
  | unit {c : List Int} {l : Int} : c ∈ C → l ∈ c → (∀ k ∈ c, k ≠ l → Der C s (-k)) → Der C s l
/-- They can't be together, and that is seen at once. -/
def Conf (C : List (List Int)) (s : List Int) : Prop := (∃ l, Der C s l ∧ Der C s (-l)) ∨ ∃ c ∈ C, ∀ k ∈ c, Der C s (-k)

theorem Der.mono {C D : List (List Int)} {s t : List Int} (hC : ∀ c ∈ C, ∃ d ∈ D, ∀ v, v ∈ d ↔ v ∈ c) (hs : ∀ l ∈ s, l ∈ t) {l : Int} (h : Der C s l) : Der D t l := by
  induction h with
  | start h => exact .start (hs _ h)
  | unit hc hl _ ih =>
    obtain ⟨d, hd, e⟩ := hC _ hc
    exact .unit hd ((e _).2 hl) fun k hk hne => ih k ((e _).1 hk) hne
theorem Conf.mono {C D : List (List Int)} {s t : List Int} (hC : ∀ c ∈ C, ∃ d ∈ D, ∀ v, v ∈ d ↔ v ∈ c) (hs : ∀ l ∈ s, l ∈ t) (h : Conf C s) : Conf D t := by
  rcases h with ⟨l, h1, h2⟩ | ⟨c, hc, h⟩
  · exact .inl ⟨l, h1.mono hC hs, h2.mono hC hs⟩
  · obtain ⟨d, hd, e⟩ := hC _ hc
    exact .inr ⟨d, hd, fun k hk => (h k ((e _).1 hk)).mono hC hs⟩

/-! ### Values -/
def val (vs : List Int) (l : Int) : Int := if l = 0 ∨ vs.length ≤ l.natAbs then 0 else if l < 0 ∧ vs.getD l.natAbs 0 ≠ 0 then 3 - vs.getD l.natAbs 0 else vs.getD l.natAbs 0
def Vok (vs : List Int) : Prop := ∀ x ∈ vs, x = 0 ∨ x = 1 ∨ x = 2
def setV (vs : List Int) (l : Int) : List Int := vs.set l.natAbs (if 0 < l then 1 else 2)
theorem getD_ok {vs : List Int} (h : Vok vs) (i : Nat) : vs.getD i 0 = 0 ∨ vs.getD i 0 = 1 ∨ vs.getD i 0 = 2 := by
  rw [List.getD_eq_getElem?_getD]
  cases hx : vs[i]? with
  | none => left; rfl
  | some x => exact h x (List.mem_of_getElem? hx)
theorem val_ok {vs : List Int} (h : Vok vs) (l : Int) : val vs l = 0 ∨ val vs l = 1 ∨ val vs l = 2 := by
  unfold val
  have := getD_ok h l.natAbs
  split
  · left; rfl
  · split <;> omega
theorem val_neg {vs : List Int} (h : Vok vs) (l : Int) : val vs (-l) = if val vs l = 0 then 0 else 3 - val vs l := by
  unfold val
  have := getD_ok h l.natAbs
  rw [Int.natAbs_neg]
  by_cases h0 : l = 0 ∨ vs.length ≤ l.natAbs
  · rw [if_pos (by omega), if_pos h0]; rfl
  · rw [if_neg (by omega), if_neg h0]
    generalize vs.getD l.natAbs 0 = a at *
    repeat' split
    all_goals omega
theorem Vok.set {vs : List Int} (h : Vok vs) (l : Int) : Vok (setV vs l) := fun x hx => by
  unfold setV at hx
  rcases List.mem_or_eq_of_mem_set hx with hx | hx
  · exact h x hx
  · split at hx <;> omega
theorem setV_len (vs : List Int) (l : Int) : (setV vs l).length = vs.length := by simp [setV]
theorem val_set {vs : List Int} {l : Int} (h0 : l ≠ 0) (h1 : l.natAbs < vs.length) (k : Int) : val (setV vs l) k = if k = l then 1 else if k = -l then 2 else val vs k := by
  unfold val
  rw [setV_len]
  have hg : ∀ j : Nat, (setV vs l).getD j 0 = if j = l.natAbs then (if 0 < l then 1 else 2) else vs.getD j 0 := fun j => by
    unfold setV
    rw [List.getD_eq_getElem?_getD, List.getElem?_set]
    by_cases hj : l.natAbs = j
    · subst hj; simp [h1]
    · rw [if_neg hj, if_neg (fun e => hj e.symm), List.getD_eq_getElem?_getD]
  rw [hg]
  by_cases hk : k = l
  · subst hk
    rw [if_pos rfl, if_neg (by omega), if_pos rfl]
    split <;> split <;> omega
  · rw [if_neg hk]
    by_cases hk2 : k = -l
    · subst hk2
      rw [if_pos rfl, if_neg (by omega), Int.natAbs_neg, if_pos rfl]
      split <;> split <;> omega
    · rw [if_neg hk2, if_neg (c := k.natAbs = l.natAbs) (by omega)]

/-! ### The assignment in the heap -/
def Vw.i8 : Vw Int := ⟨1, fun _ a us => us = [.int .i8 a], Nat.one_pos, fun h => by rw [h]; rfl, fun _ h => h⟩
theorem Vw.i8_flat : Vw.i8.Flat := fun _ _ _ _ h => h
/-- An assignment, at a pointer. -/
def AsgV (σ : Heap) (p : AVal) (vs : List Int) : Prop := ∃ l v, p = .ptr l 0 ∧ Loc σ l [v] ∧ SlV .i8 σ vs v
theorem AsgV.mono {σ τ : Heap} {p : AVal} {vs : List Int} (h : AsgV σ p vs) (L : Hle σ τ) : AsgV τ p vs := by
  obtain ⟨l, v, e, h1, h2⟩ := h
  exact ⟨l, v, e, h1.mono L, h2.mono L⟩

end Go.Proofs.YtekehmgfedmflaaDoor.A

/- Values: set, new, what a clause is worth. -/
namespace Go.Proofs.YtekehmgfedmflaaDoor.A
open Go
abbrev i8s (vs : List Int) : List AVal := vs.map (AVal.int .i8)
/-- An assignment of one's own. -/
structure AsgR (σ : Heap) (la lv : Nat) (vs : List Int) : Prop where
  loc : Loc σ la [.sl lv 0 vs.length none]
  get : σ.get lv = some (.cells .rw 1 (i8s vs))
  lt : lv < σ.next
  ne : la ≠ lv
theorem AsgR.v {σ : Heap} {la lv : Nat} {vs : List Int} (h : AsgR σ la lv vs) : AsgV σ (.ptr la 0) vs :=
  ⟨la, _, rfl, h.loc, .inr ⟨lv, 0, none, .rw, _, rfl, h.lt, h.get, by simp [Vw.i8], fun i a hi => by
    show _ = _
    obtain ⟨h8, h9⟩ := List.getElem?_eq_some_iff.1 hi
    simp only [Vw.i8, Nat.mul_one, Nat.zero_add]
    rw [List.drop_eq_getElem_cons (by simpa using h8)]
    simp [h9]⟩⟩
theorem AsgR.mono {σ τ : Heap} {la lv : Nat} {vs : List Int} (h : AsgR σ la lv vs) (L : Hle σ τ) : AsgR τ la lv vs := ⟨h.loc.mono L, L.get _ _ h.lt h.get, Nat.lt_of_lt_of_le h.lt L.next, h.ne⟩
theorem AsgR.kill {σ : Heap} {la lv k : Nat} {vs : List Int} (h : AsgR σ la lv vs) (h1 : la ≠ k) (h2 : lv ≠ k) : AsgR (σ.kill k) la lv vs := ⟨h.loc.kill h1, by rw [hkill_get, if_neg h2]; exact h.get, h.lt, h.ne⟩

theorem cut_eq {σ : Heap} {v : Int} (h0 : 0 ≤ v) (h1 : v ≤ 4000) : S.assign_Cut v σ = some v := by
  unfold S.assign_Cut
  rw [if_neg (c := 0 > v) (by omega), if_neg (by omega)]
/-- What a clause is worth, and the one literal that is left. -/
structure ClW (vs c : List Int) (r : Int × Int) : Prop where
  bad : r.1 = 2 ↔ ∀ k ∈ c, val vs k = 2
  one : r.1 ≠ 2 → r.2 ≠ 0 → r.2 ∈ c ∧ val vs r.2 = 0 ∧ ∀ k ∈ c, k ≠ r.2 → val vs k = 2
  many : r.1 ≠ 2 → r.2 = 0 → (∃ k ∈ c, val vs k = 1) ∨ ∃ j ∈ c, ∃ k ∈ c, j ≠ k ∧ val vs j ≠ 2 ∧ val vs k ≠ 2

end Go.Proofs.YtekehmgfedmflaaDoor.A

/- Ghost tags: which part an object belongs to; lists of one's own. -/
namespace Go.Proofs.YtekehmgfedmflaaDoor.A
open Go
theorem W.loopI {X Y : Type} {f : X → Heap → Option ((X ⊕ Y) × Heap)} {Q : Y × Heap → Prop} (Inv : Nat → X → Heap → Prop) {m : Nat} {x : X} {σ : Heap} (h0 : Inv m x σ)
    (step : ∀ m x σ, Inv m x σ → W (f x σ) (LQ (fun x' σ' => ∃ m', m' < m ∧ Inv m' x' σ') Q)) : W (loopW f x σ) Q := by
  induction m using Nat.strongRecOn generalizing x σ with
  | ind m ih =>
    obtain ⟨⟨r, τ⟩, e, hr⟩ := step m x σ h0
    cases r with
    | inl x' =>
      obtain ⟨m', hm, h'⟩ := hr
      obtain ⟨z, h3, h4⟩ := ih m' hm h'
      exact ⟨z, loopW_next e h3, h4⟩
    | inr y => exact ⟨_, loopW_stop e, hr⟩

/-- Which part each object belongs to. -/
abbrev Tg := Nat → Nat
abbrev Tz : Tg := fun _ => 0
def Tg.upd (T : Tg) (l t : Nat) : Tg := fun k => if k = l then t else T k
/-- What one part has. -/
def Heap.at (σ : Heap) (T : Tg) (i : Nat) : Heap := ⟨σ.next, fun k => if T k = i then σ.get k else none⟩
/-- What is not there yet has no part. -/
structure Tn (σ : Heap) (T : Tg) : Prop where
  z : ∀ k, σ.next ≤ k → T k = 0
section
variable {σ τ υ : Heap} {T T' T2 : Tg} {i j k l t : Nat} {o : AObj} {I J : Nat → Bool} {cs : List AVal}
theorem at_get : (σ.at T i).get k = some o ↔ T k = i ∧ σ.get k = some o := by
  simp only [Heap.at]; split <;> simp [*]
theorem at_of (h1 : T k = i) (h2 : σ.get k = some o) : (σ.at T i).get k = some o := at_get.2 ⟨h1, h2⟩
theorem at_le : Hle (σ.at T i) σ := ⟨Nat.le_refl _, fun k o _ h => (at_get.1 h).2⟩
theorem at_tz : σ.at Tz 0 = σ := by simp [Heap.at]
theorem Hle.ats (L : Hle σ τ) (T : Tg) (i : Nat) : Hle (σ.at T i) (τ.at T i) := ⟨L.next, fun k o hk h => at_of (at_get.1 h).1 (L.get k o hk (at_get.1 h).2)⟩
theorem Tn.mono (h : Tn σ T) (L : Hle σ τ) : Tn τ T := ⟨fun k hk => h.z k (Nat.le_trans L.next hk)⟩
theorem Tn.tz : Tn σ Tz := ⟨fun _ _ => rfl⟩
theorem upd_self : T.upd l t l = t := if_pos rfl
theorem upd_ne (h : k ≠ l) : T.upd l t k = T k := if_neg h

/-- A step that touches some parts alone. -/
structure Hop (I : Nat → Bool) (σ : Heap) (T : Tg) (τ : Heap) (T' : Tg) : Prop where
  next : σ.next ≤ τ.next
  tn : Tn τ T'
  tag : ∀ k, k < σ.next → I (T k) = false → T' k = T k
  get : ∀ k o, k < σ.next → I (T k) = false → σ.get k = some o → τ.get k = some o
abbrev only (t : Nat) : Nat → Bool := fun j => j == t
theorem Hop.le (h : Hop I σ T τ T') (hj : I j = false) : Hle (σ.at T j) (τ.at T' j) := ⟨h.next, fun k o hk hg => by
  obtain ⟨rfl, h2⟩ := at_get.1 hg
  exact at_of (h.tag k hk hj) (h.get k o hk hj h2)⟩
theorem Hop.refl (hn : Tn σ T) : Hop I σ T σ T := ⟨Nat.le_refl _, hn, fun _ _ _ => rfl, fun _ _ _ _ h => h⟩
theorem Hop.trans (h : Hop I σ T τ T') (k : Hop I τ T' υ T2) : Hop I σ T υ T2 := ⟨Nat.le_trans h.next k.next, k.tn, fun j hj hI => by
    have e := h.tag j hj hI
    rw [k.tag j (Nat.lt_of_lt_of_le hj h.next) (by rw [e]; exact hI), e], fun j o hj hI hg => by
    have e := h.tag j hj hI
    exact k.get j o (Nat.lt_of_lt_of_le hj h.next) (by rw [e]; exact hI) (h.get j o hj hI hg)⟩
theorem Hop.sub (h : Hop I σ T τ T') (k : ∀ i, I i = true → J i = true) : Hop J σ T τ T' := by
  have key : ∀ i, J i = false → I i = false := fun i hi => by
    cases e : I i
    · rfl
    · rw [k i e] at hi; cases hi
  exact ⟨h.next, h.tn, fun j hj hJ => h.tag j hj (key _ hJ), fun j o hj hJ => h.get j o hj (key _ hJ)⟩
theorem Hop.of (hn : Tn σ T) (L : Hle σ τ) : Hop I σ T τ T := ⟨L.next, hn.mono L, fun _ _ _ => rfl, fun k o hk _ h => L.get k o hk h⟩
theorem hop_set (hn : Tn σ T) (hl : T l = t) : Hop (only t) σ T (σ.set l o) T := ⟨Nat.le_refl _, ⟨hn.z⟩, fun _ _ _ => rfl, fun k x _ hI hg => by
  rw [hset_get, if_neg (fun e => by subst e; simp [only, hl] at hI)]; exact hg⟩
theorem hop_kill (hn : Tn σ T) (hl : T l = t) : Hop (only t) σ T (σ.kill l) T := ⟨Nat.le_refl _, ⟨hn.z⟩, fun _ _ _ => rfl, fun k x _ hI hg => by
  rw [hkill_get, if_neg (fun e => by subst e; simp [only, hl] at hI)]; exact hg⟩
theorem hop_new (hn : Tn σ T) : Hop (only t) σ T (σ.new o) (T.upd σ.next t) := ⟨Nat.le_succ _, ⟨fun k hk => by
    have hk : σ.next + 1 ≤ k := hk
    rw [upd_ne (by omega)]; exact hn.z k (by omega)⟩, fun k hk _ => upd_ne (by omega), fun k x hk _ hg => by rw [hnew_get, if_neg (by omega)]; exact hg⟩
end
theorem get_setV (τ : Heap) (l : Nat) (o : AObj) : (τ.set l o).get l = some o := by rw [hset_get, if_pos rfl]

/-! ### Windows -/
theorem win {cs ds : List AVal} {a b n : Nat} (h : ∀ q, q < n → cs[a + q]? = ds[b + q]?) : (cs.drop a).take n = (ds.drop b).take n := by
  apply List.ext_getElem? fun q => ?_
  by_cases hq : q < n
  · rw [List.getElem?_take_of_lt hq, List.getElem?_take_of_lt hq, List.getElem?_drop, List.getElem?_drop]; exact h q hq
  · rw [List.getElem?_eq_none (by simp; omega), List.getElem?_eq_none (by simp; omega)]
theorem mul_lt {i n s : Nat} (h : i < n) : i * s + s ≤ n * s := by rw [← Nat.succ_mul]; exact Nat.mul_le_mul_right _ h

section
variable {α β : Type} {v : Vw α} {σ τ : Heap} {T T' : Tg} {t i : Nat} {xs ys : List α} {x y : AVal} {a : α}
/-- A slice of one's own. -/
def Own (v : Vw α) (σ : Heap) (xs : List α) (x : AVal) : Prop := (x = .nils ∧ xs = []) ∨ ∃ l off c cs, x = .sl l off xs.length c ∧ l < σ.next ∧ σ.get l = some (.cells .rw v.sz cs) ∧
  (∀ k, c = some k → (off + k) * v.sz ≤ cs.length) ∧ (off + xs.length) * v.sz ≤ cs.length ∧ ∀ i a, xs[i]? = some a → v.rel σ a ((cs.drop ((off + i) * v.sz)).take v.sz)
theorem Own.sl (h : Own v σ xs x) : SlV v σ xs x := by
  rcases h with h | ⟨l, off, c, cs, h1, h2, h3, _, h4, h5⟩
  · exact .inl h
  · exact .inr ⟨l, off, c, .rw, cs, h1, h2, h3, h4, h5⟩
theorem Own.mono (h : Own v σ xs x) (L : Hle σ τ) : Own v τ xs x := by
  rcases h with h | ⟨l, off, c, cs, h1, h2, h3, h6, h4, h5⟩
  · exact .inl h
  · exact .inr ⟨l, off, c, cs, h1, Nat.lt_of_lt_of_le h2 L.next, L.get _ _ h2 h3, h6, h4, fun i a ha => v.mono L (h5 i a ha)⟩
theorem Own.slT (h : Own v (σ.at T t) xs x) : SlV v σ xs x := h.sl.mono at_le
theorem SlV.up (h : SlV v (σ.at T t) xs x) : SlV v σ xs x := h.mono at_le
theorem Own.nil : Own v σ [] .nils := .inl ⟨rfl, rfl⟩

/-- Appending to a slice of one's own. -/
theorem Own.app (hf : v.Flat) (h : Own v (σ.at T t) xs x) (hn : Tn σ T) {ds : List AVal} (hd : ds.length = ys.length * v.sz) (hr : ∀ i a, ys[i]? = some a → v.rel σ a ((ds.drop (i * v.sz)).take v.sz)) {bytes : Nat}
    (hb : (xs.length + ys.length) * bytes ≤ 70368744177664) (hb' : xs.length + ys.length ≤ 70368744177664) :
    ∃ x' τ T', (∀ {R : Type} (K : AVal → Heap → Option R), appC σ v.sz bytes x ds ys.length K = K x' τ) ∧ Own v (τ.at T' t) (xs ++ ys) x' ∧ Hop (only t) σ T τ T' := by
  by_cases h0 : ys.length = 0
  · have : ys = [] := List.eq_nil_of_length_eq_zero h0
    subst this
    rw [List.append_nil]
    refine ⟨x, σ, T, fun K => ?_, h, Hop.refl hn⟩
    rcases h with ⟨rfl, rfl⟩ | ⟨l, off, c, cs, rfl, h2, h3, h6, h4, h5⟩
    · rfl
    · simp only [appC, (at_get.1 h3).2]
      rw [if_pos ⟨trivial, v.pos, h4⟩, if_pos (by rfl)]
  have hfresh : ∀ (σ' : Heap) (hn' : Tn σ' T) (es : List AVal), es.length = xs.length * v.sz → (∀ i a, xs[i]? = some a → v.rel σ a ((es.drop (i * v.sz)).take v.sz)) →
      Own v ((σ'.new (.cells .rw v.sz (es ++ ds))).at (T.upd σ'.next t) t) (xs ++ ys) (.sl σ'.next 0 (xs.length + ys.length) none) := fun σ' hn' es he hes => by
    refine .inr ⟨σ'.next, 0, none, es ++ ds, by simp, Nat.lt_succ_self _, at_of upd_self (by rw [hnew_get, if_pos rfl]), (fun k e => by cases e), by simp [he, hd, Nat.add_mul], fun i a hi => ?_⟩
    rw [Nat.zero_add]
    by_cases hlt : i < xs.length
    · rw [List.getElem?_append_left hlt] at hi
      have := mul_lt (s := v.sz) hlt
      refine hf σ _ _ _ ?_
      rw [win (ds := es) (b := i * v.sz) fun q hq => List.getElem?_append_left (by omega)]
      exact hes i a hi
    · rw [List.getElem?_append_right (by omega)] at hi
      refine hf σ _ _ _ ?_
      have e : i * v.sz = xs.length * v.sz + (i - xs.length) * v.sz := by rw [← Nat.add_mul]; congr 1; omega
      rw [win (ds := ds) (b := (i - xs.length) * v.sz) fun q hq => by rw [List.getElem?_append_right (by omega)]; congr 1; omega]
      exact hr _ a hi
  rcases h with ⟨rfl, rfl⟩ | ⟨l, off, c, cs, rfl, h2, h3, h6, h4, h5⟩
  · simp only [List.length_nil, Nat.zero_add] at hb hb'
    have := hfresh σ hn [] (by simp) (fun i a hi => by simp at hi)
    simp only [List.nil_append, List.length_nil, Nat.zero_add] at this
    exact ⟨_, _, _, fun K => by simp only [appC]; rw [if_neg h0, if_pos ⟨hb, hb'⟩]; rfl, this, hop_new hn⟩
  obtain ⟨hTl, hg⟩ := at_get.1 h3
  have hroom : (off + xs.length + ys.length) * v.sz ≤ cs.length → Own v ((σ.set l (.cells .rw v.sz (cs.take ((off + xs.length) * v.sz) ++ ds ++ cs.drop ((off + xs.length + ys.length) * v.sz)))).at T t) (xs ++ ys) (.sl l off (xs.length + ys.length) c) := fun hroom => by
    have hA : (off + xs.length + ys.length) * v.sz = (off + xs.length) * v.sz + ys.length * v.sz := Nat.add_mul ..
    have hlen : (cs.take ((off + xs.length) * v.sz) ++ ds ++ cs.drop ((off + xs.length + ys.length) * v.sz)).length = cs.length := by
      simp only [List.length_append, List.length_take, List.length_drop]; omega
    refine .inr ⟨l, off, c, _, by simp, h2, at_of hTl (get_setV ..), (fun k e => by rw [hlen]; exact h6 k e), by rw [hlen, List.length_append]; simpa [Nat.add_assoc] using hroom, fun i a hi => ?_⟩
    by_cases hlt : i < xs.length
    · rw [List.getElem?_append_left hlt] at hi
      have := mul_lt (s := v.sz) (show off + i < off + xs.length by omega)
      refine hf (σ.at T t) _ _ _ ?_
      rw [win (ds := cs) (b := (off + i) * v.sz) fun q hq => by
        rw [List.append_assoc, List.getElem?_append_left (by simp only [List.length_take]; omega), List.getElem?_take_of_lt (by omega)]]
      exact h5 i a hi
    · rw [List.getElem?_append_right (by omega)] at hi
      have hlt2 := (List.getElem?_eq_some_iff.1 hi).1
      have := mul_lt (s := v.sz) hlt2
      refine hf σ _ _ _ ?_
      have e : (off + i) * v.sz = (off + xs.length) * v.sz + (i - xs.length) * v.sz := by rw [← Nat.add_mul]; congr 1; omega
      rw [win (ds := ds) (b := (i - xs.length) * v.sz) fun q hq => by
        rw [List.append_assoc, List.getElem?_append_right (by simp only [List.length_take]; omega), List.getElem?_append_left (by simp only [List.length_take]; omega)]
        congr 1; simp only [List.length_take]; omega]
      exact hr _ a hi
  have hfr : ∀ (σ' : Heap) (hn' : Tn σ' T), Own v ((σ'.new (.cells .rw v.sz ((cs.drop (off * v.sz)).take (xs.length * v.sz) ++ ds))).at (T.upd σ'.next t) t) (xs ++ ys) (.sl σ'.next 0 (xs.length + ys.length) none) := fun σ' hn' => by
    have e : (off + xs.length) * v.sz = off * v.sz + xs.length * v.sz := Nat.add_mul ..
    refine hfresh σ' hn' _ (by simp only [List.length_take, List.length_drop]; omega) fun i a hi => ?_
    have hlt := (List.getElem?_eq_some_iff.1 hi).1
    have := mul_lt (s := v.sz) hlt
    have e2 : (off + i) * v.sz = off * v.sz + i * v.sz := Nat.add_mul ..
    refine hf (σ.at T t) _ _ _ ?_
    rw [win (ds := cs) (b := (off + i) * v.sz) fun q hq => by
      rw [List.getElem?_take_of_lt (by omega), List.getElem?_drop]; congr 1; omega]
    exact h5 i a hi
  cases c with
  | some k =>
    by_cases hk : xs.length + ys.length ≤ k
    · have := h6 k rfl
      have h7 : (off + xs.length + ys.length) * v.sz ≤ (off + k) * v.sz := Nat.mul_le_mul_right _ (by omega)
      refine ⟨_, _, T, fun K => ?_, hroom (by omega), hop_set hn hTl⟩
      simp only [appC, hg]
      rw [if_pos ⟨trivial, v.pos, h4⟩, if_neg h0, if_pos ⟨hb, hb'⟩]
      simp only [hk, if_true]
      rw [if_pos ⟨trivial, by omega⟩]
    · refine ⟨_, _, _, fun K => ?_, hfr σ hn, hop_new hn⟩
      simp only [appC, hg]
      rw [if_pos ⟨trivial, v.pos, h4⟩, if_neg h0, if_pos ⟨hb, hb'⟩]
      simp only [if_neg hk]
      rfl
  | none =>
    by_cases hr2 : (off + xs.length + ys.length) * v.sz ≤ cs.length
    · refine ⟨_, _, T, fun K => ?_, hroom hr2, hop_set hn hTl⟩
      simp only [appC, hg]
      rw [if_pos ⟨trivial, v.pos, h4⟩, if_neg h0, if_pos ⟨hb, hb'⟩]
      simp only [if_true, if_pos hr2]
    · have hn' : Tn (σ.kill l) T := ⟨hn.z⟩
      refine ⟨_, _, _, fun K => ?_, hfr (σ.kill l) hn', (hop_kill hn hTl).trans (hop_new hn')⟩
      simp only [appC, hg]
      rw [if_pos ⟨trivial, v.pos, h4⟩, if_neg h0, if_pos ⟨hb, hb'⟩]
      simp only [if_true, if_neg hr2]
      rfl

/-- Where an element's cell is. -/
def ptrK (x : AVal) (sz i k : Nat) : AVal := match x with
  | .sl l off _ _ => .ptr l ((off + i) * sz + k)
  | _ => .nilp
theorem Own.store (hf : v.Flat) (h : Own v (σ.at T t) xs x) (hn : Tn σ T) (hi : xs[i]? = some a) {k : Nat} {as0 vs : List AVal} {a' : α} (hk : k + vs.length ≤ v.sz) (hra : v.rel σ a as0 → v.rel σ a' (as0.take k ++ vs ++ as0.drop (k + vs.length)))
    (has : ∀ bs, v.rel σ a bs → bs = as0) : ∃ τ, (∀ {R : Type} (K : Heap → Option R), stC σ (ptrK x v.sz i k) vs K = K τ) ∧ Own v (τ.at T t) (xs.set i a') x ∧ Hop (only t) σ T τ T ∧ τ.next = σ.next := by
  rcases h with ⟨rfl, rfl⟩ | ⟨l, off, c, cs, rfl, h2, h3, h6, h4, h5⟩
  · simp at hi
  · obtain ⟨hTl, hg⟩ := at_get.1 h3
    have hlt := (List.getElem?_eq_some_iff.1 hi).1
    have e := mul_lt (s := v.sz) (show off + i < off + xs.length by omega)
    have hr := hf _ σ _ _ (h5 i a hi)
    have hea := has _ hr
    have hlen : (cs.take ((off + i) * v.sz + k) ++ vs ++ cs.drop ((off + i) * v.sz + k + vs.length)).length = cs.length := by
      simp only [List.length_append, List.length_take, List.length_drop]; omega
    refine ⟨σ.set l (.cells .rw v.sz (cs.take ((off + i) * v.sz + k) ++ vs ++ cs.drop ((off + i) * v.sz + k + vs.length))), fun K => ?_, .inr ⟨l, off, c, _, by simp, h2, at_of hTl (get_setV ..), (fun k e => by rw [hlen]; exact h6 k e), by rw [hlen, List.length_set]; exact h4, fun j b hj => ?_⟩, hop_set hn hTl, rfl⟩
    · simp only [ptrK, stC, hg]
      rw [if_pos (by omega)]
    · rw [List.getElem?_set] at hj
      by_cases hij : i = j
      · subst hij
        rw [if_pos rfl, if_pos hlt] at hj
        cases hj
        refine hf σ _ _ _ ?_
        subst hea
        have : ((cs.take ((off + i) * v.sz + k) ++ vs ++ cs.drop ((off + i) * v.sz + k + vs.length)).drop ((off + i) * v.sz)).take v.sz = ((cs.drop ((off + i) * v.sz)).take v.sz).take k ++ vs ++ ((cs.drop ((off + i) * v.sz)).take v.sz).drop (k + vs.length) := by
          apply List.ext_getElem? fun q => ?_
          by_cases q1 : q < v.sz
          · rw [List.getElem?_take_of_lt q1, List.getElem?_drop]
            by_cases q2 : q < k
            · rw [List.append_assoc, List.append_assoc, List.getElem?_append_left (by simp; omega), List.getElem?_append_left (by simp; omega), List.getElem?_take_of_lt (by omega), List.getElem?_take_of_lt q2, List.getElem?_take_of_lt q1, List.getElem?_drop]
            · by_cases q3 : q < k + vs.length
              · rw [List.getElem?_append_left (by simp; omega), List.getElem?_append_right (by simp; omega), List.getElem?_append_left (by simp; omega), List.getElem?_append_right (by simp; omega)]
                congr 1; simp; omega
              · rw [List.getElem?_append_right (by simp; omega), List.getElem?_append_right (by simp; omega), List.getElem?_drop, List.getElem?_drop, List.getElem?_take_of_lt (by simp; omega), List.getElem?_drop]
                congr 1; simp; omega
          · rw [List.getElem?_eq_none (by simp; omega), List.getElem?_eq_none (by simp; omega)]
        rw [this]
        exact hra hr
      · rw [if_neg hij] at hj
        have hjl := (List.getElem?_eq_some_iff.1 hj).1
        have e2 := mul_lt (s := v.sz) (show off + j < off + xs.length by omega)
        refine hf (σ.at T t) _ _ _ ?_
        rw [win (ds := cs) (b := (off + j) * v.sz) fun q hq => ?_]
        · exact h5 j b hj
        · rcases Nat.lt_or_gt_of_ne hij with hlt' | hgt
          · have e3 := mul_lt (s := v.sz) (show off + i < off + j by omega)
            rw [List.getElem?_append_right (by simp only [List.length_append, List.length_take]; omega), List.getElem?_drop]
            congr 1; simp only [List.length_append, List.length_take]; omega
          · have e3 := mul_lt (s := v.sz) (show off + j < off + i by omega)
            rw [List.append_assoc, List.getElem?_append_left (by simp only [List.length_take]; omega), List.getElem?_take_of_lt (by omega)]
/-- A part of a slice. -/
theorem SlV.slice (h : SlV v σ xs x) {lo hi : Nat} (h1 : lo ≤ hi) (h2 : hi ≤ xs.length) : ∃ x', (∀ {τ : Heap}, Hle σ τ → ∀ {R : Type} (K : AVal → Option R), slS τ v.sz x (lo : Int) (some (hi : Int)) none K = K x' ∧ (hi = xs.length → slS τ v.sz x (lo : Int) none none K = K x')) ∧ SlV v σ ((xs.take hi).drop lo) x' := by
  rcases h with ⟨rfl, rfl⟩ | ⟨l, off, c, md, cs, rfl, k2, k3, k4, k5⟩
  · simp at h2
    obtain rfl : lo = 0 := by omega
    subst h2
    exact ⟨.nils, fun L _ K => ⟨by simp [slS], fun _ => by simp [slS]⟩, .inl ⟨rfl, rfl⟩⟩
  · refine ⟨.sl l (off + lo) (hi - lo) (clipTo none c lo), fun {τ} L R K => ⟨?_, fun e => ?_⟩, .inr ⟨l, off + lo, _, md, cs, by rw [List.length_drop, List.length_take, Nat.min_eq_left h2], k2, k3, ?_, fun i a ha => ?_⟩⟩
    · simp only [slS, L.get _ _ k2 k3]
      rw [if_pos ⟨trivial, by omega, by simp; omega, by simp; omega, by simp, by simp⟩]
      simp
    · subst e
      simp only [slS, L.get _ _ k2 k3]
      rw [if_pos ⟨trivial, by omega, by simp; omega, by simp, by simp, by simp⟩]
      simp
    · have h8 : (off + lo + ((xs.take hi).drop lo).length) * v.sz ≤ (off + xs.length) * v.sz := Nat.mul_le_mul_right _ (by simp; omega)
      omega
    · rw [List.getElem?_drop, List.getElem?_take] at ha
      split at ha
      · have := k5 _ _ ha
        rwa [← Nat.add_assoc] at this
      · cases ha
/-- A part of a slice of one's own. -/
theorem Own.slice (h : Own v σ xs x) {lo hi : Nat} (h1 : lo ≤ hi) (h2 : hi ≤ xs.length) : ∃ x', (∀ {τ : Heap}, Hle σ τ → ∀ {R : Type} (K : AVal → Option R), slS τ v.sz x (lo : Int) (some (hi : Int)) none K = K x' ∧ (hi = xs.length → slS τ v.sz x (lo : Int) none none K = K x')) ∧ Own v σ ((xs.take hi).drop lo) x' := by
  rcases h with ⟨rfl, rfl⟩ | ⟨l, off, c, cs, rfl, k2, k3, k6, k4, k5⟩
  · simp at h2
    obtain rfl : lo = 0 := by omega
    subst h2
    exact ⟨.nils, fun L _ K => ⟨by simp [slS], fun _ => by simp [slS]⟩, .inl ⟨rfl, rfl⟩⟩
  · refine ⟨.sl l (off + lo) (hi - lo) (clipTo none c lo), fun {τ} L R K => ⟨?_, fun e => ?_⟩, .inr ⟨l, off + lo, _, cs, by rw [List.length_drop, List.length_take, Nat.min_eq_left h2], k2, k3, fun k e => ?_, ?_, fun i a ha => ?_⟩⟩
    · simp only [slS, L.get _ _ k2 k3]
      rw [if_pos ⟨trivial, by omega, by simp; omega, by simp; omega, by simp, by simp⟩]
      simp
    · subst e
      simp only [slS, L.get _ _ k2 k3]
      rw [if_pos ⟨trivial, by omega, by simp; omega, by simp, by simp, by simp⟩]
      simp
    · cases c with
      | none => simp [clipTo] at e
      | some m =>
        simp [clipTo] at e
        have := k6 m rfl
        by_cases hm : lo ≤ m
        · rw [show off + lo + k = off + m by omega]; exact this
        · have h8 : (off + lo + k) * v.sz ≤ (off + xs.length) * v.sz := Nat.mul_le_mul_right _ (by omega)
          omega
    · have h8 : (off + lo + ((xs.take hi).drop lo).length) * v.sz ≤ (off + xs.length) * v.sz := Nat.mul_le_mul_right _ (by simp; omega)
      omega
    · rw [List.getElem?_drop, List.getElem?_take] at ha
      split at ha
      · have := k5 _ _ ha
        rwa [← Nat.add_assoc] at this
      · cases ha
end
/-! ### Facts at tags, behind a step -/
section
variable {α : Type} {v : Vw α} {σ τ : Heap} {T T' : Tg} {t l : Nat} {xs : List α} {x : AVal} {cs : List AVal} {I : Nat → Bool} {ps : List (Int × AVal)}
theorem Loc.hop (h : Loc (σ.at T t) l cs) (H : Hop I σ T τ T') (hI : I t = false := by rfl) : Loc (τ.at T' t) l cs := h.mono (H.le hI)
theorem Own.hop (h : Own v (σ.at T t) xs x) (H : Hop I σ T τ T') (hI : I t = false := by rfl) : Own v (τ.at T' t) xs x := h.mono (H.le hI)
theorem SlV.hop (h : SlV v (σ.at T t) xs x) (H : Hop I σ T τ T') (hI : I t = false := by rfl) : SlV v (τ.at T' t) xs x := h.mono (H.le hI)
theorem MapV.hop (h : MapV (σ.at T t) l ps) (H : Hop I σ T τ T') (hI : I t = false := by rfl) : MapV (τ.at T' t) l ps := h.mono (H.le hI)
theorem Hop.hop {J : Nat → Bool} {σ0 : Heap} {T0 : Tg} (h : Hop J σ0 T0 σ T) (H : Hop I σ T τ T') (hI : ∀ i, I i = true → J i = true := by intro i hi; simp at hi ⊢; omega) : Hop J σ0 T0 τ T' := h.trans (H.sub hI)
theorem Hop.hle {J : Nat → Bool} {σ0 : Heap} {T0 : Tg} (h : Hop J σ0 T0 σ T) (L : Hle σ τ) : Hop J σ0 T0 τ T := h.trans (Hop.of h.tn L)
theorem Loc.hle (h : Loc (σ.at T t) l cs) (L : Hle σ τ) : Loc (τ.at T t) l cs := h.mono (L.ats T t)
theorem Own.hle (h : Own v (σ.at T t) xs x) (L : Hle σ τ) : Own v (τ.at T t) xs x := h.mono (L.ats T t)
theorem SlV.hle (h : SlV v (σ.at T t) xs x) (L : Hle σ τ) : SlV v (τ.at T t) xs x := h.mono (L.ats T t)
theorem MapV.hle (h : MapV (σ.at T t) l ps) (L : Hle σ τ) : MapV (τ.at T t) l ps := h.mono (L.ats T t)
end
/-! ### Rules -/
section
variable {R α β : Type} {v : Vw α} {w : Vw β} {σ : Heap} {T : Tg} {t i l : Nat} {xs ys : List α} {x y : AVal} {a : α} {cs : List AVal} {Q : R → Prop}
theorem W.own_push (hf : v.Flat) (h : Own v (σ.at T t) xs x) (hn : Tn σ T) (hr : v.rel σ a cs) {sz bytes : Nat} (hb : (xs.length + 1) * bytes ≤ 70368744177664) (hb' : xs.length + 1 ≤ 70368744177664) {K : AVal → Heap → Option R}
    (c : ∀ x' τ T', Own v (τ.at T' t) (xs ++ [a]) x' → Hop (only t) σ T τ T' → W (K x' τ) Q) (hs : sz = v.sz := by rfl) : W (newK σ sz cs fun l τ => appS τ sz bytes x (.sl l 0 1 none) K) Q := by
  subst hs
  have L1 := (Hle.refl σ).new (.cells .rw v.sz cs)
  have hc := v.len hr
  obtain ⟨x', τ, T', e, h1, h2⟩ := (h.mono (L1.ats T t)).app hf (hn.mono L1) (ds := cs) (ys := [a]) (by simpa using hc) (fun i b hb => by
    match i, hb with
    | 0, hb =>
      cases hb
      rw [Nat.zero_mul, List.drop_zero, List.take_of_length_le (by omega)]
      exact v.mono L1 hr
    | i + 1, hb => simp at hb) (bytes := bytes) (by simpa using hb) (by simpa using hb')
  refine W.to ?_ (c x' τ T' h1 ((Hop.of hn L1).trans h2))
  rw [← e K]
  simp only [newK, appS, srcK, hnew_get, if_true, List.length_singleton]
  rw [if_pos ⟨trivial, by simp [hc]⟩]
  simp [← hc]
theorem W.own_app (hf : v.Flat) (h : Own v (σ.at T t) xs x) (hn : Tn σ T) (hy : SlV v σ ys y) {sz bytes : Nat} (hb : (xs.length + ys.length) * bytes ≤ 70368744177664) (hb' : xs.length + ys.length ≤ 70368744177664) {K : AVal → Heap → Option R}
    (c : ∀ x' τ T', Own v (τ.at T' t) (xs ++ ys) x' → Hop (only t) σ T τ T' → W (K x' τ) Q) (hs : sz = v.sz := by rfl) : W (appS σ sz bytes x y K) Q := by
  subst hs
  obtain ⟨ds, e0, hd, hr⟩ := hy.src
  obtain ⟨x', τ, T', e, h1, h2⟩ := h.app hf hn hd hr (bytes := bytes) hb hb'
  refine W.to ?_ (c x' τ T' h1 h2)
  rw [← e K]
  exact e0 _
theorem W.own_set (hf : v.Flat) (h : Own v (σ.at T t) xs x) (hn : Tn σ T) (hi : xs[i]? = some a) {k sz : Nat} (as0 : List AVal) {vs : List AVal} (a' : α) {K : Heap → Option R} (hk : k + vs.length ≤ v.sz)
    (has : ∀ bs, v.rel σ a bs → bs = as0) (hra : v.rel σ a as0 → v.rel σ a' (as0.take k ++ vs ++ as0.drop (k + vs.length)))
    (c : ∀ τ, Own v (τ.at T t) (xs.set i a') x → Hop (only t) σ T τ T → τ.next = σ.next → W (K τ) Q) (hs : sz = v.sz := by rfl) : W (stC σ (ptrK x sz i k) vs K) Q := by
  subst hs
  obtain ⟨τ, e, h1, h2, h3⟩ := h.store hf hn hi hk hra has
  exact W.to (e K) (c τ h1 h2 h3)
/-- Own flat elements of one cell. -/
theorem W.own_setI {xs : List Int} {a : Int} (h : Own .int (σ.at T t) xs x) (hn : Tn σ T) (hi : i < xs.length) {K : Heap → Option R}
    (c : ∀ τ, Own .int (τ.at T t) (xs.set i a) x → Hop (only t) σ T τ T → τ.next = σ.next → W (K τ) Q) : W (stC σ (ptrK x 1 i 0) [.int .i64 a] K) Q :=
  W.own_set Vw.int_flat h hn (List.getElem?_eq_getElem hi) [.int .i64 xs[i]] a (Nat.le_refl _) (fun _ h => h) (fun _ => rfl) c
/-- A value as0 it is. -/
def vRaw : Vw AVal := ⟨1, fun _ a us => us = [a], Nat.one_pos, fun h => by rw [h]; rfl, fun _ h => h⟩
theorem vRaw_flat : vRaw.Flat := fun _ _ _ _ h => h
theorem W.own_setV {xs : List AVal} {a : AVal} (h : Own vRaw (σ.at T t) xs x) (hn : Tn σ T) (hi : i < xs.length) {K : Heap → Option R}
    (c : ∀ τ, Own vRaw (τ.at T t) (xs.set i a) x → Hop (only t) σ T τ T → τ.next = σ.next → W (K τ) Q) : W (stC σ (ptrK x 1 i 0) [a] K) Q :=
  W.own_set vRaw_flat h hn (List.getElem?_eq_getElem hi) [xs[i]] a (Nat.le_refl _) (fun _ h => h) (fun _ => rfl) c
/-- Where an element is. -/
theorem W.ixO (h : SlV v σ xs x) (hi : i < xs.length) {sz : Nat} {K : AVal → Option R} (c : W (K (ptrK x sz i 0)) Q) (hs : sz = v.sz := by rfl) : W (ixA σ x sz (i : Int) K) Q := by
  subst hs
  rcases h with ⟨rfl, rfl⟩ | ⟨l, off, c', md, cs, rfl, h2, h3, h4, h5⟩
  · simp at hi
  · refine W.to ?_ c
    simp only [ixA, h3]
    rw [if_pos ⟨trivial, by omega, by omega⟩, Int.toNat_natCast]
    rfl
theorem W.fldO (h : SlV v σ xs x) (hi : i < xs.length) {sz k j : Nat} {K : AVal → Option R} (c : W (K (ptrK x sz i (k + j))) Q) : W (fld (ptrK x sz i k) j K) Q := by
  rcases h with ⟨rfl, rfl⟩ | ⟨l, off, c', md, cs, rfl, h2, h3, h4, h5⟩
  · simp at hi
  · refine W.to ?_ c
    simp only [fld, ptrK, Nat.add_assoc]
theorem W.ldO (h : SlV v σ xs x) (hi : xs[i]? = some a) {sz k : Nat} {u : AVal} {kd : Kd} {K : kd.ty → Option R} (hk : ∀ as0, v.rel σ a as0 → as0[k]? = some u) (c : W (asK kd u K) Q) (hs : sz = v.sz := by rfl) : W (ld σ (ptrK x sz i k) kd K) Q := by
  subst hs
  rcases h with ⟨rfl, rfl⟩ | ⟨l, off, c', md, cs, rfl, h2, h3, h4, h5⟩
  · simp at hi
  · have hr := h5 i a hi
    have h6 := hk _ hr
    have hlt : k < v.sz := by rw [← v.len hr]; exact (List.getElem?_eq_some_iff.1 h6).1
    rw [List.getElem?_take_of_lt hlt, List.getElem?_drop] at h6
    refine W.to ?_ c
    simp only [ptrK, ld, Heap.cell, h3, h6]
theorem W.ldOV {xs : List AVal} {a : AVal} (h : SlV vRaw σ xs x) (hi : xs[i]? = some a) {K : AVal → Option R} (c : W (K a) Q) : W (ld σ (ptrK x 1 i 0) .V K) Q :=
  W.ldO h hi (u := a) (fun as0 h => by have h : as0 = [a] := h; rw [h]; rfl) c
/-- An element, read at once. -/
theorem W.ixV {xs : List AVal} {a : AVal} (h : SlV vRaw σ xs x) (hi : xs[i]? = some a) {K : AVal → Option R} (c : W (K a) Q) : W (ixA σ x 1 (i : Int) fun p => ld σ p .V K) Q :=
  W.ixO h (List.getElem?_eq_some_iff.1 hi).1 (W.ldOV h hi c)

/-! ### Objects with tags -/
theorem W.newT (t : Nat) (hn : Tn σ T) {sz : Nat} {K : Nat → Heap → Option R} (c : ∀ l τ T', l = σ.next → Hop (only t) σ T τ T' → Loc (τ.at T' t) l cs → τ.next = σ.next + 1 → W (K l τ) Q) : W (newK σ sz cs K) Q :=
  c σ.next _ (T.upd σ.next t) rfl (hop_new hn) ⟨Nat.lt_succ_self _, sz, at_of upd_self (by rw [hnew_get, if_pos rfl])⟩ rfl
theorem W.new0 (hn : Tn σ T) {sz : Nat} {K : Nat → Heap → Option R} (c : ∀ l τ, l = σ.next → Hle σ τ → Loc (τ.at T 0) l cs → Tn τ T → W (K l τ) Q) : W (newK σ sz cs K) Q :=
  have L := (Hle.refl σ).new (.cells .rw sz cs)
  c σ.next _ rfl L ⟨Nat.lt_succ_self _, sz, at_of (hn.z _ (Nat.le_refl _)) (by rw [hnew_get, if_pos rfl])⟩ (hn.mono L)
theorem W.stT {o : Nat} {vs : List AVal} (h : Loc (σ.at T t) l cs) (hn : Tn σ T) (hv : o + vs.length ≤ cs.length) {K : Heap → Option R} (c : ∀ τ, Hop (only t) σ T τ T → Loc (τ.at T t) l (cs.take o ++ vs ++ cs.drop (o + vs.length)) → τ.next = σ.next → W (K τ) Q) : W (stC σ (.ptr l o) vs K) Q := by
  obtain ⟨sz, e⟩ := h.get
  obtain ⟨e1, e2⟩ := at_get.1 e
  refine W.to (o' := K (σ.set l (.cells .rw sz (cs.take o ++ vs ++ cs.drop (o + vs.length))))) ?_ (c _ (hop_set hn e1) ⟨h.lt, sz, at_of e1 (get_setV ..)⟩ rfl)
  simp only [stC, e2, if_pos hv]
theorem Loc.up (h : Loc (σ.at T t) l cs) : Loc σ l cs := h.mono at_le
theorem W.mgetT {ps : List (Int × AVal)} (h : MapV (σ.at T t) l ps) {n : Int} {z : AVal} {K : AVal → Bool → Option R} (c : W (K ((look ps n).getD z) (look ps n).isSome) Q) : W (A.mgetZ σ (.map l) .i64 n z K) Q := W.to ((h.mono at_le).mgetZ z K) c
end
end Go.Proofs.YtekehmgfedmflaaDoor.A

/- A base of clauses, as0 lists. -/
namespace Go.Proofs.YtekehmgfedmflaaDoor.A
open Go
/-- Clauses by their numbers; none: it was dropped. -/
abbrev Cls := List (Option (List Int))
def lv (cls : Cls) : List (List Int) := cls.filterMap id
def clAt (cls : Cls) (id : Nat) : Option (List Int) := (cls[id]?).join
def hits (cls : Cls) (p : List Int → Bool) (id : Nat) : Bool := match clAt cls id with
  | some c => p c
  | none => false
def idsBy (cls : Cls) (p : List Int → Bool) : List Int := ((List.range cls.length).filter (hits cls p)).map fun (n : Nat) => (n : Int)
def hasP (x : Int) : List Int → Bool := fun c => decide (x ∈ c)
def smallP : List Int → Bool := fun c => decide (c.length < 2)
/-! ### What follows at once -/
def rightC (vars : Int) (c : List Int) : Prop := ∀ l ∈ c, l ≠ 0 ∧ -vars ≤ l ∧ l ≤ vars
abbrev negs (c : List Int) : List Int := c.map fun l => -l
end Go.Proofs.YtekehmgfedmflaaDoor.A

/- A base of clauses in the heap: right, Add, New. -/
namespace Go.Proofs.YtekehmgfedmflaaDoor.A
open Go
def tgL (x : Int) : Nat := 20 + 2 * x.natAbs + if x < 0 then 1 else 0
theorem tgL_ge (x : Int) : 20 ≤ tgL x := by unfold tgL; omega
/-- The lists by literals. -/
def AllBy (σ : Heap) (T : Tg) (f : Int → List Int) (ps : List (Int × AVal)) : Prop := ∀ y, Own .int (σ.at T (tgL y)) (f y) ((look ps y).getD .nils)
/-- The clauses. -/
def AllCl (σ : Heap) (T : Tg) (cls : Cls) (cv : List AVal) : Prop := ∀ id c, clAt cls id = some c → ∃ x, cv[id]? = some x ∧ SlV .int (σ.at T 0) c x
section
variable {σ τ : Heap} {T T' : Tg} {I : Nat → Bool} {f : Int → List Int} {ps : List (Int × AVal)} {cls : Cls} {cv : List AVal}
theorem AllBy.hop (h : AllBy σ T f ps) (H : Hop I σ T τ T') (hI : ∀ t, 20 ≤ t → I t = false := by intro t ht; simp; omega) : AllBy τ T' f ps := fun y => (h y).hop H (hI _ (tgL_ge y))
theorem AllBy.hle (h : AllBy σ T f ps) (L : Hle σ τ) : AllBy τ T f ps := fun y => (h y).hle L
theorem AllCl.hop (h : AllCl σ T cls cv) (H : Hop I σ T τ T') (hI : I 0 = false := by rfl) : AllCl τ T' cls cv := fun id c hc => (h id c hc).imp fun x hx => ⟨hx.1, hx.2.hop H hI⟩
theorem AllCl.hle (h : AllCl σ T cls cv) (L : Hle σ τ) : AllCl τ T cls cv := fun id c hc => (h id c hc).imp fun x hx => ⟨hx.1, hx.2.hle L⟩
end
structure BaseS (σ : Heap) (T : Tg) (l vars : Nat) (cls : Cls) : Prop where
  ex : ∃ (vc vt : AVal) (lm : Nat) (vs : AVal) (many : Int) (ps : List (Int × AVal)) (cv : List AVal), Loc (σ.at T 1) l [.int .i64 vars, vc, vt, .map lm, vs, .int .i64 many] ∧ Own vRaw (σ.at T 2) cv vc ∧ cv.length = cls.length ∧
    AllCl σ T cls cv ∧ Own .bool (σ.at T 3) (cls.map Option.isSome) vt ∧ MapV (σ.at T 4) lm ps ∧
    AllBy σ T (fun x => idsBy cls (hasP x)) ps ∧ Own .int (σ.at T 5) (idsBy cls smallP) vs
  ok : ∀ c ∈ lv cls, rightC vars c
  nm : ∀ c ∈ lv cls, normL c = c
  vl : vars ≤ 4000
  cl : cls.length ≤ 1000000
  ll : ∀ c ∈ lv cls, c.length ≤ 1000000
theorem BaseS.mono {σ τ : Heap} {T T' : Tg} {l vars : Nat} {cls : Cls} (h : BaseS σ T l vars cls) (L : ∀ i, Hle (σ.at T i) (τ.at T' i)) : BaseS τ T' l vars cls := by
  obtain ⟨⟨vc, vt, lm, vs, many, ps, cv, h1, h2, h3, h4, h5, h6, h7, h8⟩, a, b, c, d, e⟩ := h
  exact ⟨⟨vc, vt, lm, vs, many, ps, cv, h1.mono (L _), h2.mono (L _), h3, fun id c hc => (h4 id c hc).elim fun x hx => ⟨x, hx.1, hx.2.mono (L _)⟩, h5.mono (L _), h6.mono (L _), fun x => (h7 x).mono (L _), h8.mono (L _)⟩, a, b, c, d, e⟩
theorem BaseS.hle {σ τ : Heap} {T : Tg} {l vars : Nat} {cls : Cls} (h : BaseS σ T l vars cls) (L : Hle σ τ) : BaseS τ T l vars cls := h.mono fun i => L.ats T i

theorem Fresh.at0 {n0 : Nat} {τ : Heap} {xs : List Int} {y : AVal} {T : Tg} (h : Fresh n0 τ xs y) (hT : ∀ k, n0 ≤ k → T k = 0) : SlV .int (τ.at T 0) xs y := by
  obtain ⟨h, hf⟩ := h
  rcases h with h | ⟨l, off, c, md, cs, rfl, h2, h3, h4, h5⟩
  · exact .inl h
  · exact .inr ⟨l, off, c, md, cs, rfl, h2, at_of (hT l (hf _ _ _ _ rfl)) h3, h4, h5⟩
end Go.Proofs.YtekehmgfedmflaaDoor.A

/- A base of clauses in the heap: equal lists, what is left, find, Drop, New. -/
namespace Go.Proofs.YtekehmgfedmflaaDoor.A
open Go
/-- The end of a list is cleared and cut off. -/
theorem Own.cut {σ : Heap} {T : Tg} {t i : Nat} {ys : List Int} {x : AVal} (h : Own .int (σ.at T t) ys x) (hn : Tn σ T) (hi : i ≤ ys.length) : ∃ x1 x2 τ, (∀ {R : Type} (K : AVal → Option R), slS σ 1 x (i : Int) none none K = K x1) ∧
    (∀ {R : Type} (K : Heap → Option R), clearK σ 1 [.int .i64 0] x1 K = K τ) ∧ (∀ {R : Type} (K : AVal → Option R), slS τ 1 x 0 (some (i : Int)) none K = K x2) ∧ Own .int (τ.at T t) (ys.take i) x2 ∧ Hop (only t) σ T τ T := by
  rcases h with ⟨rfl, rfl⟩ | ⟨l, off, c, cs, rfl, h2, h3, h6, h4, h5⟩
  · have : i = 0 := by simpa using hi
    subst this
    exact ⟨.nils, .nils, σ, fun K => by simp [slS], fun K => rfl, fun K => by simp [slS], by simpa using Own.nil, Hop.refl hn⟩
  · obtain ⟨hT, hg⟩ := at_get.1 h3
    have hrl : ∀ n : Nat, (rep n [AVal.int .i64 0]).length = n := fun n => by
      induction n with
      | zero => rfl
      | succ n ih => simp [rep, ih]
    simp only [Vw.int, Nat.mul_one] at h4 h6
    have e1 : ∀ {R : Type} (K : AVal → Option R), slS σ 1 (.sl l off ys.length c) (i : Int) none none K = K (.sl l (off + i) (ys.length - i) (clipTo none c i)) := fun K => by
      have hg : σ.get l = some (.cells .rw 1 cs) := hg
      simp only [slS, hg]
      rw [if_pos ⟨trivial, by omega, by simp; omega, by simp, by simp, by simp⟩]
      simp
    have fin : ∀ τ cs', τ.next = σ.next → τ.get l = some (.cells .rw 1 cs') → cs'.length = cs.length → cs'.take (off + i) = cs.take (off + i) → Hop (only t) σ T τ T → (∀ {R : Type} (K : Heap → Option R), clearK σ 1 [.int .i64 0] (.sl l (off + i) (ys.length - i) (clipTo none c i)) K = K τ) →
        ∃ x1 x2 τ, (∀ {R : Type} (K : AVal → Option R), slS σ 1 (.sl l off ys.length c) (i : Int) none none K = K x1) ∧ (∀ {R : Type} (K : Heap → Option R), clearK σ 1 [.int .i64 0] x1 K = K τ) ∧ (∀ {R : Type} (K : AVal → Option R), slS τ 1 (.sl l off ys.length c) 0 (some (i : Int)) none K = K x2) ∧ Own .int (τ.at T t) (ys.take i) x2 ∧ Hop (only t) σ T τ T := fun τ cs' hx hgt hlen htk H hc => by
      refine ⟨_, .sl l off i (clipTo none c 0), τ, e1, hc, fun K => ?_, .inr ⟨l, off, _, cs', by rw [List.length_take, Nat.min_eq_left hi], by rw [show (τ.at T t).next = σ.next from hx]; exact h2, at_of hT hgt, fun k e => ?_, by simp [Vw.int]; omega, fun j b hj => ?_⟩, H⟩
      · simp only [slS, hgt]
        rw [if_pos ⟨trivial, by omega, by simp, by simp; omega, by simp, by simp⟩]
        simp
      · cases c with
        | none => simp [clipTo] at e
        | some m => simp [clipTo] at e; subst e; have := h6 m rfl; simp [Vw.int]; omega
      · rw [List.getElem?_take] at hj
        split at hj
        · have := h5 j b hj
          have this : (cs.drop ((off + j) * 1)).take 1 = [.int .i64 b] := this
          show (cs'.drop ((off + j) * 1)).take 1 = [.int .i64 b]
          rw [← this]
          refine win fun q hq => ?_
          have e2 : ∀ ds : List AVal, ds[(off + j) * 1 + q]? = (ds.take (off + i))[(off + j) * 1 + q]? := fun ds => by rw [List.getElem?_take_of_lt (by omega)]
          rw [e2 cs', e2 cs, htk]
        · cases hj
    have hg : σ.get l = some (.cells .rw 1 cs) := hg
    by_cases h0 : ys.length - i = 0
    · exact fin σ cs rfl hg rfl rfl (Hop.refl hn) fun K => by simp only [clearK, if_pos h0]
    · refine fin (σ.set l (.cells .rw 1 (cs.take (off + i) ++ rep (ys.length - i) [AVal.int .i64 0] ++ cs.drop (off + i + (ys.length - i))))) _ rfl (get_setV ..) (by simp [hrl]; omega) ?_ (hop_set hn hT) fun K => ?_
      · rw [List.append_assoc, List.take_append_of_le_length (by simp; omega), List.take_take, Nat.min_self]
      · simp only [clearK, if_neg h0, hg, if_true, Nat.mul_one, stC, hrl]
        rw [if_pos (by omega)]

end Go.Proofs.YtekehmgfedmflaaDoor.A

/- What follows of literals at once: the program's way. -/
namespace Go.Proofs.YtekehmgfedmflaaDoor.A
open Go
/-! ### As lists -/
def zeros (vs : List Int) : Nat := (vs.filter fun x => x == 0).length
theorem zeros_set : ∀ {vs : List Int} {i : Nat} {a : Int}, vs[i]? = some 0 → a ≠ 0 → zeros (vs.set i a) + 1 = zeros vs
  | [], i, a, h, _ => by simp at h
  | x :: t, 0, a, h, ha => by
    simp at h; subst h
    simp [zeros, ha]
  | x :: t, i + 1, a, h, ha => by
    have ih := zeros_set (vs := t) (i := i) (a := a) (by simpa using h) ha
    unfold zeros at ih ⊢
    by_cases hx : x = 0
    · simp [hx] at ih ⊢; omega
    · simp [hx] at ih ⊢; omega
theorem zeros_setV {vs : List Int} {l : Int} (hok : Vok vs) (h0 : l ≠ 0) (h1 : l.natAbs < vs.length) (hv : val vs l = 0) : zeros (setV vs l) + 1 = zeros vs := by
  unfold setV
  refine zeros_set ?_ (by split <;> omega)
  obtain ⟨a, ha⟩ : ∃ a, vs[l.natAbs]? = some a := ⟨_, List.getElem?_eq_getElem h1⟩
  have hg : vs.getD l.natAbs 0 = a := by rw [List.getD_eq_getElem?_getD, ha]; rfl
  have h3 := getD_ok hok l.natAbs
  unfold val at hv
  rw [hg] at hv h3
  rw [if_neg (by omega)] at hv
  rw [ha]
  congr 1
  split at hv <;> omega

/-- The values, the queue, what was looked at. -/
structure Cin (vars : Nat) (C : List (List Int)) (s vs q : List Int) (P : Int → Prop) (m : Nat) : Prop where
  ok : Vok vs
  len : vs.length = vars + 1
  snd : ∀ l, val vs l = 1 → Der C s l
  qd : ∀ l, val vs l = 1 → P l ∨ l ∈ q
  qt : ∀ l ∈ q, val vs l = 1
  pt : ∀ l, P l → val vs l = 1
  ms : zeros vs + q.length ≤ m
/-- A clause was looked at. -/
def GP (vs : List Int) (P : Int → Prop) (c : List Int) : Prop := (∀ l0 ∈ c, (∀ k ∈ c, k ≠ l0 → P (-k)) → val vs l0 = 1) ∧ ¬ ∀ k ∈ c, P (-k)
/-- What is true stays true. -/
def Vle (vs ws : List Int) : Prop := ∀ l, val vs l = 1 → val ws l = 1
theorem Vle.refl (vs : List Int) : Vle vs vs := fun _ h => h
theorem Vle.trans {a b c : List Int} (h : Vle a b) (k : Vle b c) : Vle a c := fun l hl => k l (h l hl)
theorem GP.mono {vs ws : List Int} {P : Int → Prop} {c : List Int} (h : GP vs P c) (L : Vle vs ws) : GP ws P c := ⟨fun l hl hk => L l (h.1 l hl hk), h.2⟩
section
variable {vars m : Nat} {C : List (List Int)} {s vs q c : List Int} {P : Int → Prop} {l : Int}
theorem val_neg1 (hv : Vok vs) : val vs (-l) = 1 ↔ val vs l = 2 := by
  have := val_ok hv l
  rw [val_neg hv]; split <;> omega
theorem Cin.set (h : Cin vars C s vs q P m) (h0 : l ≠ 0) (hl : l.natAbs ≤ vars) (hv : val vs l = 0) (hd : Der C s l) : Cin vars C s (setV vs l) (q ++ [l]) P m ∧ Vle vs (setV vs l) := by
  have hlt : l.natAbs < vs.length := by rw [h.len]; omega
  have hs := val_set h0 hlt
  have hm : Vle vs (setV vs l) := fun k hk => by
    rw [hs]
    split
    · rfl
    · split
      · rename_i e; subst e
        have := (val_neg1 h.ok).1 hk
        omega
      · exact hk
  refine ⟨⟨h.ok.set l, by rw [setV_len, h.len], fun k hk => ?_, fun k hk => ?_, fun k hk => ?_, fun k hk => hm k (h.pt k hk), ?_⟩, hm⟩
  · rw [hs] at hk
    split at hk
    · rename_i e; rw [e]; exact hd
    · split at hk
      · cases hk
      · exact h.snd k hk
  · rw [hs] at hk
    split at hk
    · rename_i e; right; simp [e]
    · split at hk
      · cases hk
      · exact (h.qd k hk).imp id fun e => by simp [e]
  · rcases List.mem_append.1 hk with hk | hk
    · exact hm k (h.qt k hk)
    · have : k = l := by simpa using hk
      rw [hs, if_pos this]
  · have := zeros_setV h.ok h0 hlt hv
    have := h.ms
    simp; omega
theorem Cin.unit (h : Cin vars C s vs q P m) (hc : c ∈ C) (hl : l ∈ c) (hv : ∀ k ∈ c, k ≠ l → val vs k = 2) : Der C s l := .unit hc hl fun k hk hne => h.snd _ ((val_neg1 h.ok).2 (hv k hk hne))
/-- All was looked at: there is no conflict. -/
theorem Cin.done (h : Cin vars C s vs [] P m) (hG : ∀ c ∈ C, GP vs P c) (hs : ∀ l ∈ s, val vs l = 1) : ¬ Conf C s := by
  have hP : ∀ l, val vs l = 1 → P l := fun l hl => (h.qd l hl).elim id fun e => by cases e
  have key : ∀ l, Der C s l → val vs l = 1 := fun l hd => by
    induction hd with
    | start h => exact hs _ h
    | unit hc hl _ ih => exact (hG _ hc).1 _ hl fun k hk hne => hP _ (ih k hk hne)
  rintro (⟨l, h1, h2⟩ | ⟨c, hc, h1⟩)
  · have := key _ h1
    have := (val_neg1 h.ok).1 (key _ h2)
    omega
  · exact (hG c hc).2 fun k hk => hP _ (key _ (h1 k hk))
end
/-! ### In the heap -/
structure AsgT (σ : Heap) (T : Tg) (la lw : Nat) (vs : List Int) : Prop where
  r : AsgR σ la lw vs
  t1 : T la = 6
  t2 : T lw = 7
theorem AsgT.hop {I : Nat → Bool} {σ τ : Heap} {T T' : Tg} {la lw : Nat} {vs : List Int} (h : AsgT σ T la lw vs) (H : Hop I σ T τ T') (h6 : I 6 = false := by rfl) (h7 : I 7 = false := by rfl) : AsgT τ T' la lw vs := by
  obtain ⟨⟨⟨h1, sz, h2⟩, h3, h4, h5⟩, t1, t2⟩ := h
  exact ⟨⟨⟨Nat.lt_of_lt_of_le h1 H.next, sz, H.get _ _ h1 (by rw [t1]; exact h6) h2⟩, H.get _ _ h4 (by rw [t2]; exact h7) h3, Nat.lt_of_lt_of_le h4 H.next, h5⟩, (H.tag _ h1 (by rw [t1]; exact h6)).trans t1, (H.tag _ h4 (by rw [t2]; exact h7)).trans t2⟩
theorem hop_tag {I : Nat → Bool} {σ τ : Heap} {T : Tg} {l t : Nat} (hn : Tn σ T) (L : Hle σ τ) (h1 : σ.next ≤ l) (h2 : l < τ.next) : Hop I σ T τ (T.upd l t) := ⟨L.next, ⟨fun k hk => by rw [upd_ne (by omega)]; exact hn.z k (Nat.le_trans L.next hk)⟩, fun k hk _ => upd_ne (by omega), fun k o hk _ hg => L.get k o hk hg⟩

section
variable {vars m : Nat} {C : List (List Int)} {s : List Int} {P : Int → Prop}
theorem Cin.good {vs q c : List Int} {r : Int × Int} {P' : Int → Prop} (h : Cin vars C s vs q P m) (hr : ClW vs c r) (hP : ∀ l, P' l → val vs l = 1) (h2 : r.1 ≠ 2) (h0 : r.2 = 0) : GP vs P' c := by
  have hP2 : ∀ k, P' (-k) → val vs k = 2 := fun k hk => (val_neg1 h.ok).1 (hP _ hk)
  refine ⟨fun l0 hl0 hk => ?_, fun hk => h2 (hr.bad.2 fun k hkc => hP2 k (hk k hkc))⟩
  rcases hr.many h2 h0 with ⟨k, hkc, hk1⟩ | ⟨j, hj, k, hkc, hne, h3, h4⟩
  · by_cases e : k = l0
    · rw [← e]; exact hk1
    · have := hP2 k (hk k hkc e); omega
  · exfalso
    by_cases e : j = l0
    · exact h4 (hP2 k (hk k hkc fun e2 => hne (e.trans e2.symm)))
    · exact h3 (hP2 j (hk j hj e))
end
/-! ### The loops -/
section
variable {T : Tg} {l vars la lw l7 l10 l1 l12 m : Nat} {cls : Cls} {s : List Int} {f : AVal}
theorem BaseS.hop {I : Nat → Bool} {σ τ : Heap} {T T' : Tg} (h : BaseS σ T l vars cls) (H : Hop I σ T τ T') (h0 : ∀ i, (i ≤ 5 ∨ 20 ≤ i) → I i = false := by intro i hi; simp; omega) : BaseS τ T' l vars cls := by
  obtain ⟨⟨vc, vt, lm, vs, many, ps, cv, h1, h2, h3, h4, h5, h6, h7, h8⟩, a, b, c, d, e⟩ := h
  exact ⟨⟨vc, vt, lm, vs, many, ps, cv, h1.hop H (h0 _ (by omega)), h2.hop H (h0 _ (by omega)), h3, h4.hop H (h0 _ (by omega)), h5.hop H (h0 _ (by omega)), h6.hop H (h0 _ (by omega)), h7.hop H fun t ht => h0 _ (.inr ht), h8.hop H (h0 _ (by omega))⟩, a, b, c, d, e⟩

end
end Go.Proofs.YtekehmgfedmflaaDoor.A

/- Does a clause follow? The steps of a proof. -/
namespace Go.Proofs.YtekehmgfedmflaaDoor.A
open Go
theorem Acc.at0 {n0 : Nat} {τ : Heap} {xs : List Int} {y : AVal} {T : Tg} (h : Acc .int n0 τ xs y) (hT : ∀ k, n0 ≤ k → T k = 0) : SlV .int (τ.at T 0) xs y :=
  Fresh.at0 ⟨h.sl, fun l off len c e => (h.loc l off len c e).1⟩ hT
theorem Acc.own {σ τ : Heap} {T : Tg} {xs : List Int} {y : AVal} {I : Nat → Bool} (h : Acc .int σ.next τ xs y) (hn : Tn σ T) (L : Hle σ τ) (t : Nat) : ∃ T', Hop I σ T τ T' ∧ Own .int (τ.at T' t) xs y := by
  rcases h with ⟨rfl, rfl⟩ | ⟨l, cs, rfl, h1, h2, h3, h4, h5⟩
  · exact ⟨T, Hop.of hn L, Own.nil⟩
  · exact ⟨T.upd l t, hop_tag hn L h1 h2, .inr ⟨l, 0, none, cs, rfl, h2, at_of upd_self h3, (fun k e => by cases e), by simpa using h4, fun i a hi => by
      have := h5 i a hi
      rw [Nat.zero_add]; exact this⟩⟩

theorem IsE.hop {I : Nat → Bool} {σ τ : Heap} {T T' : Tg} {v : AVal} {e : Er} {t : Nat} (h : IsE (σ.at T t) v e) (H : Hop I σ T τ T') (hI : I t = false := by rfl) : IsE (τ.at T' t) v e := h.mono (H.le hI)
theorem GlS.hop {I : Nat → Bool} {σ τ : Heap} {T T' : Tg} {E : List Er} {t : Nat} (h : GlS E (σ.at T t)) (H : Hop I σ T τ T') (hI : I t = false := by rfl) : GlS E (τ.at T' t) := h.mono (H.le hI)
theorem GlS.hle {σ τ : Heap} {T : Tg} {E : List Er} {t : Nat} (h : GlS E (σ.at T t)) (L : Hle σ τ) : GlS E (τ.at T t) := h.mono (L.ats T t)
theorem IsF.hop {I : Nat → Bool} {σ τ : Heap} {T T' : Tg} {v : AVal} {e : Flt} {t : Nat} (h : IsF (σ.at T t) v e) (H : Hop I σ T τ T') (hI : I t = false := by rfl) : IsF (τ.at T' t) v e := h.mono (H.le hI)
theorem IsF.up {σ : Heap} {T : Tg} {v : AVal} {e : Flt} {t : Nat} (h : IsF (σ.at T t) v e) : IsF σ v e := h.mono at_le
end Go.Proofs.YtekehmgfedmflaaDoor.A

/- Is it a proof?: Refute, Derive, Used. -/
namespace Go.Proofs.YtekehmgfedmflaaDoor.A
open Go
theorem SlV.tz {α : Type} {v : Vw α} {σ τ : Heap} {T : Tg} {I : Nat → Bool} {xs : List α} {x : AVal} (h : SlV v σ xs x) (H : Hop I σ Tz τ T) (hI : I 0 = false := by rfl) : SlV v (τ.at T 0) xs x := by
  have h : SlV v (σ.at Tz 0) xs x := by rw [at_tz]; exact h
  exact h.hop H hI
theorem GlS.tz {σ τ : Heap} {T : Tg} {I : Nat → Bool} {E : List Er} (h : GlS E σ) (H : Hop I σ Tz τ T) (hI : I 0 = false := by rfl) : GlS E (τ.at T 0) := by
  have h : GlS E (σ.at Tz 0) := by rw [at_tz]; exact h
  exact h.hop H hI
section
variable {σ : Heap} {vars : Int} {cs : List (List Int)} {ss : List (Bool × List Int)} {x y : AVal}
end
end Go.Proofs.YtekehmgfedmflaaDoor.A

/- Clauses and formulas out of numbers. -/
namespace Go.Proofs.YtekehmgfedmflaaDoor.A
open Go
theorem number_eq {σ : Heap} {n b : Int} (hb : 0 < b) (hb2 : b ≤ 4611686018427387904) : S.skolemworld_Number n b σ = some (n % b) := by
  unfold S.skolemworld_Number
  rw [if_neg (by omega)]
  have h0 := Int.emod_nonneg n (show b ≠ 0 by omega)
  have h1 := Int.emod_lt_of_pos n hb
  rcases (show n < 0 ∨ 0 ≤ n by omega) with hn | hn
  · have e : Int.tmod n b = if n % b = 0 then 0 else n % b - b := by
      rw [Int.tmod_eq_emod]
      split
      · rename_i h
        rcases h with h | h
        · omega
        · have := Int.emod_eq_zero_of_dvd h; rw [if_pos this]; omega
      · rename_i h
        have : n % b ≠ 0 := fun e => h (.inr (Int.dvd_of_emod_eq_zero e))
        rw [if_neg this]; omega
    rw [e]
    by_cases hz : n % b = 0
    · rw [if_pos hz, hz]; rfl
    · rw [if_neg hz]
      have : decide (n % b - b < 0) = true := by simp; omega
      rw [this]
      have w : IntKind.i64.wrap (n % b - b + b) = n % b := by rw [wrapS] <;> omega
      rw [w]; rfl
  · have e : Int.tmod n b = n % b := Int.tmod_eq_emod_of_nonneg hn
    rw [e]
    have : decide (n % b < 0) = false := by simp; omega
    rw [this]; rfl

def lit (n vars : Int) : Int := if n % (2 * vars) < vars then n % (2 * vars) + 1 else vars - n % (2 * vars) - 1
theorem lit_ok {n vars : Int} (h : 0 < vars) : lit n vars ≠ 0 ∧ -vars ≤ lit n vars ∧ lit n vars ≤ vars := by
  unfold lit
  have h0 := Int.emod_nonneg n (show 2 * vars ≠ 0 by omega)
  have h1 := Int.emod_lt_of_pos n (show 0 < 2 * vars by omega)
  split <;> omega
theorem lit_eq {σ : Heap} {n vars : Int} (h : 0 < vars) (h2 : vars ≤ 1000000) : S.skolemmake_Lit n vars σ = some (lit n vars) := by
  unfold S.skolemmake_Lit lit
  have w : IntKind.i64.wrap (2 * vars) = 2 * vars := by rw [wrapS] <;> omega
  have h0 := Int.emod_nonneg n (show 2 * vars ≠ 0 by omega)
  have h1 := Int.emod_lt_of_pos n (show 0 < 2 * vars by omega)
  rw [w, number_eq (by omega) (by omega)]
  simp only [Option.bind_some]
  by_cases hl : n % (2 * vars) < vars
  · simp only [hl, decide_true, cond_true, if_true]
    rw [wrapS] <;> omega
  · simp only [hl, decide_false, cond_false, if_false]
    have w1 : IntKind.i64.wrap (vars - n % (2 * vars)) = vars - n % (2 * vars) := by rw [wrapS] <;> omega
    rw [w1, wrapS] <;> omega

/-- Clauses out of numbers. -/
def stepC (vars : Int) (s : List (List Int) × List Int) (n : Int) : List (List Int) × List Int :=
  let t := if (n % 7 = 0 ∧ s.2.length > 0) ∨ s.2.length ≥ 5 then (s.1 ++ [s.2], []) else s
  (t.1, t.2 ++ [lit (n % 1099511627776 / 7) vars])
def endC (s : List (List Int) × List Int) : List (List Int) := if s.2.length > 0 then s.1 ++ [s.2] else s.1
def clausesOf (l : List Int) (vars : Int) : List (List Int) := if vars < 1 then [] else endC (l.foldl (stepC vars) ([], []))

theorem len_flat : ∀ {cs : List (List Int)}, (∀ c ∈ cs, c ≠ []) → cs.length ≤ cs.flatten.length
  | [], _ => by simp
  | c :: cs, h => by
    have h1 := len_flat (cs := cs) fun d hd => h d (List.mem_cons_of_mem _ hd)
    have h2 : c.length ≠ 0 := fun e => h c (by simp) (List.eq_nil_of_length_eq_zero e)
    simp only [List.flatten_cons, List.length_append, List.length_cons]; omega
structure CI (vars : Int) (k : Nat) (s : List (List Int) × List Int) : Prop where
  ok : ∀ c ∈ s.1, c ≠ [] ∧ c.length ≤ 5 ∧ ∀ l ∈ c, l ≠ 0 ∧ -vars ≤ l ∧ l ≤ vars
  ok2 : s.2.length ≤ 5 ∧ ∀ l ∈ s.2, l ≠ 0 ∧ -vars ≤ l ∧ l ≤ vars
  len : s.1.flatten.length + s.2.length = k
theorem CI.len2 {vars : Int} {k : Nat} {s : List (List Int) × List Int} (h : CI vars k s) : s.1.length + s.2.length ≤ k := by
  have := len_flat fun c hc => (h.ok c hc).1
  have := h.len; omega
theorem stepC_ok {vars : Int} (hv : 0 < vars) {k : Nat} {s : List (List Int) × List Int} (h : CI vars k s) (n : Int) : CI vars (k + 1) (stepC vars s n) := by
  obtain ⟨h1, h2, h3⟩ := h
  unfold stepC
  have hl := lit_ok (n := n % 1099511627776 / 7) hv
  by_cases hc : (n % 7 = 0 ∧ s.2.length > 0) ∨ s.2.length ≥ 5
  · rw [if_pos hc]
    have hp : 0 < s.2.length := by rcases hc with ⟨_, h⟩ | h <;> omega
    refine ⟨fun c hc => ?_, ⟨by simp, fun l hl' => ?_⟩, ?_⟩
    · rcases List.mem_append.1 hc with hc | hc
      · exact h1 c hc
      · simp at hc; subst hc
        exact ⟨fun e => by rw [e] at hp; simp at hp, h2⟩
    · simp at hl'; subst hl'; exact hl
    · simp only [List.flatten_append, List.length_append, List.flatten_cons, List.flatten_nil, List.append_nil, List.nil_append, List.length_singleton, List.length_nil]; omega
  · rw [if_neg hc]
    refine ⟨h1, ⟨?_, fun l hl' => ?_⟩, ?_⟩
    · simp only [List.length_append, List.length_singleton]; omega
    · rcases List.mem_append.1 hl' with hl' | hl'
      · exact h2.2 l hl'
      · simp at hl'; subst hl'; exact hl
    · simp only [List.flatten_append, List.length_append, List.flatten_cons, List.flatten_nil, List.append_nil, List.nil_append, List.length_singleton, List.length_nil]; omega
theorem foldC_ok {vars : Int} (hv : 0 < vars) : ∀ (l : List Int) (k : Nat) (s : List (List Int) × List Int), CI vars k s → CI vars (k + l.length) (l.foldl (stepC vars) s)
  | [], k, s, h => h
  | n :: l, k, s, h => by
    have := foldC_ok hv l (k + 1) _ (stepC_ok hv h n)
    rw [List.length_cons, show k + (l.length + 1) = k + 1 + l.length by omega]
    exact this
theorem CI0 (vars : Int) : CI vars 0 ([], []) := ⟨fun c h => (by cases h), ⟨by simp, fun l h => (by cases h)⟩, rfl⟩
theorem clausesOf_ok (l : List Int) (vars : Int) : (∀ c ∈ clausesOf l vars, c ≠ [] ∧ c.length ≤ 5 ∧ ∀ x ∈ c, x ≠ 0 ∧ -vars ≤ x ∧ x ≤ vars) ∧ (clausesOf l vars).flatten.length ≤ l.length ∧ (clausesOf l vars).length ≤ l.length := by
  unfold clausesOf
  split
  · simp
  · have h0 := foldC_ok (show 0 < vars by omega) l 0 _ (CI0 vars)
    have h4 := h0.len2
    obtain ⟨h1, h2, h3⟩ := h0
    generalize l.foldl (stepC vars) ([], []) = s at *
    unfold endC
    split
    · rename_i hp
      refine ⟨fun c hc => ?_, by simp only [List.flatten_append, List.length_append, List.flatten_cons, List.flatten_nil, List.append_nil, List.nil_append, List.length_singleton, List.length_nil]; omega, by simp only [List.flatten_append, List.length_append, List.flatten_cons, List.flatten_nil, List.append_nil, List.nil_append, List.length_singleton, List.length_nil]; omega⟩
      rcases List.mem_append.1 hc with hc | hc
      · exact h1 c hc
      · simp at hc; subst hc
        exact ⟨fun e => by rw [e] at hp; simp at hp, h2⟩
    · exact ⟨h1, by omega, by omega⟩

theorem Acc.apart {α : Type} {v : Vw α} {n m : Nat} {τ : Heap} {os : List α} {cl : List Int} {o c : AVal} (hO : Acc v n (out τ c) os o) (hC : Acc .int m τ cl c) : SlV .int (out τ o) cl c := by
  refine hC.sl.flat Vw.int_flat (by rw [out_next]; exact Nat.le_refl _) fun l off len k e => ?_
  rcases hO with ⟨rfl, _⟩ | ⟨lo, cs, rfl, h1, h2, h3, _⟩
  · rfl
  · subst e
    have h3 : (τ.kill l).get lo = _ := h3
    rw [hkill_get] at h3
    split at h3
    · cases h3
    · rename_i h
      show (τ.kill lo).get l = _
      rw [hkill_get, if_neg (fun e => h e.symm)]

theorem clauses_w {σ : Heap} {l : List Int} {vars : Int} {x : AVal} (hx : SlV .int σ l x) (hb : l.length ≤ 1000000) (hv : vars ≤ 1000000) :
    W (S.skolemmake_Clauses x vars σ) fun r => Hle σ r.2 ∧ Acc (vIsF σ.next) σ.next r.2 (clausesOf l vars) r.1 := by
  unfold S.skolemmake_Clauses clausesOf
  by_cases hv1 : vars < 1
  · repeat' (first | (with_reducible refine W.ret ?_) | (with_reducible refine W.condT ?_ ?_; focus (first | (simp only [q1, q2, q3, q4, q5, q6, q7, q8, q9, q10, q11, q12, q13, q14, q15, q16, q17, q18, q19, q20, q21, q22, q23, q24, q25, q26, q27, q28, q29, q30, Kd.ty]; done) | (simp only [q1, q2, q3, q4, q5, q6, q7, q8, q9, q10, q11, q12, q13, q14, q15, q16, q17, q18, q19, q20, q21, q22, q23, q24, q25, q26, q27, q28, q29, q30, Kd.ty]; omega) | assumption)))
    rw [if_pos hv1]
    exact ⟨Hle.refl _, Acc.nil _ _ _⟩
  repeat' (first | (with_reducible refine W.bind ?_) | (with_reducible refine W.condF ?_ ?_; focus (first | (simp only [q1, q2, q3, q4, q5, q6, q7, q8, q9, q10, q11, q12, q13, q14, q15, q16, q17, q18, q19, q20, q21, q22, q23, q24, q25, q26, q27, q28, q29, q30, Kd.ty]; done) | (simp only [q1, q2, q3, q4, q5, q6, q7, q8, q9, q10, q11, q12, q13, q14, q15, q16, q17, q18, q19, q20, q21, q22, q23, q24, q25, q26, q27, q28, q29, q30, Kd.ty]; omega) | assumption)))
  rw [if_neg hv1]
  refine W.loop l.length (fun i (y : AVal × AVal × Int) τ => y.2.2 = (i : Int) ∧ Hle σ τ ∧ Acc (vIsF σ.next) σ.next (out τ y.2.1) ((l.take i).foldl (stepC vars) ([], [])).1 y.1 ∧ Acc .int σ.next τ ((l.take i).foldl (stepC vars) ([], [])).2 y.2.1)
    ⟨rfl, Hle.refl _, Acc.nil _ _ _, Acc.nil _ _ _⟩ fun i y τ hi hI => ?_
  obtain ⟨o, c, j⟩ := y
  obtain ⟨rfl, L, hO, hC⟩ := hI
  dsimp only at hO hC
  have hci := foldC_ok (show 0 < vars by omega) (l.take i) 0 _ (CI0 vars)
  have hti : (l.take i).length ≤ i := by simp; omega
  unfold S.skolemmake_Clauses.b0
  dsimp only
  have hx' := hx.mono L
  repeat' (with_reducible refine W.len (by assumption) ?_)
  (with_reducible refine W.cnd (fun hq => ?_) (fun hq => ?_) <;> (try simp only [q1, q2, q3, q4, q5, q6, q7, q8, q9, q10, q11, q12, q13, q14, q15, q16, q17, q18, q19, q20, q21, q22, q23, q24, q25, q26, q27, q28, q29, q30, Kd.ty] at hq) <;> (try (exfalso; omega)))
  · obtain ⟨n, hn⟩ : ∃ n, l[i]? = some n := ⟨_, List.getElem?_eq_getElem (by omega)⟩
    have htk : l.take (i + 1) = l.take i ++ [n] := by rw [List.take_add_one, hn]; rfl
    have hstep : (l.take (i + 1)).foldl (stepC vars) ([], []) = stepC vars ((l.take i).foldl (stepC vars) ([], [])) n := by rw [htk, List.foldl_append]; rfl
    rw [hstep]
    generalize (l.take i).foldl (stepC vars) ([], []) = s at *
    have hCl := hC.sl
    have c4 := hci.len2
    obtain ⟨c1, c2, c3⟩ := hci
    repeat' (with_reducible (first | refine W.bind ?_ | refine W.ixIc (by assumption) (by assumption) ?_))
    refine W.to (number_eq (by omega) (by omega)) ?_
    repeat' (with_reducible refine W.ret ?_)
    have hcut : W (cond (n % 7 == 0) (lenV c fun n9 => cond (decide (n9 > 0)) (some true) (lenV c fun n10 => some (decide (n10 ≥ 5)))) (lenV c fun n11 => some (decide (n11 ≥ 5)))) fun r => r = decide ((n % 7 = 0 ∧ s.2.length > 0) ∨ s.2.length ≥ 5) := by
      repeat' (first | (with_reducible (first | refine W.ret ?_ | refine W.len (by assumption) ?_)) | (with_reducible refine W.cnd (fun hc => ?_) (fun hc => ?_) <;> (try simp only [q1, q2, q3, q4, q5, q6, q7, q8, q9, q10, q11, q12, q13, q14, q15, q16, q17, q18, q19, q20, q21, q22, q23, q24, q25, q26, q27, q28, q29, q30, Kd.ty] at hc) <;> (try (exfalso; omega))))
      all_goals first | exact (decide_eq_true (by omega)).symm | exact (decide_eq_false (by omega)).symm | exact decide_eq_decide.2 (by omega)
    refine W.mono hcut fun r hr => ?_
    subst hr
    -- the cut
    have hmid : W (cond (decide ((n % 7 = 0 ∧ s.2.length > 0) ∨ s.2.length ≥ 5)) (scal c (newK τ 1 [c] fun l13 σ14 => appS σ14 1 24 o (.sl l13 0 1 none) fun v15 σ16 => some ((v15, AVal.nils), σ16))) (some ((o, c), τ))) fun r =>
        Hle σ r.2 ∧ ∃ t : List (List Int) × List Int, t = (if (n % 7 = 0 ∧ s.2.length > 0) ∨ s.2.length ≥ 5 then (s.1 ++ [s.2], []) else s) ∧ t.2.length ≤ 5 ∧ Acc (vIsF σ.next) σ.next (out r.2 r.1.2) t.1 r.1.1 ∧ Acc .int σ.next r.2 t.2 r.1.2 := by
      (with_reducible refine W.cnd (fun hcc => ?_) (fun hcc => ?_) <;> (try simp only [q1, q2, q3, q4, q5, q6, q7, q8, q9, q10, q11, q12, q13, q14, q15, q16, q17, q18, q19, q20, q21, q22, q23, q24, q25, q26, q27, q28, q29, q30, Kd.ty] at hcc) <;> (try (exfalso; omega)))
      · refine W.scalS hCl ?_
        have hO' := hO.mono (Hle.out _ _)
        refine W.push hO' L (cs := [c]) (a := s.2) ⟨c, rfl, hO.apart hC, hC.from (Nat.le_refl _)⟩ (by omega) (by omega) fun o' τ' L' hO'' _ => ?_
        repeat' (with_reducible refine W.ret ?_)
        exact ⟨L', _, rfl, by rw [if_pos (by simpa using hcc)]; simp, by rw [if_pos (by simpa using hcc)]; exact hO'', by rw [if_pos (by simpa using hcc)]; exact Acc.nil _ _ _⟩
      · repeat' (with_reducible refine W.ret ?_)
        have hcc' : ¬ ((n % 7 = 0 ∧ s.2.length > 0) ∨ s.2.length ≥ 5) := by simpa using hcc
        exact ⟨L, _, rfl, by rw [if_neg hcc']; exact c2.1, by rw [if_neg hcc']; exact hO, by rw [if_neg hcc']; exact hC⟩
    repeat' (with_reducible refine W.bind ?_)
    refine W.mono hmid fun r hr => ?_
    obtain ⟨⟨o', c'⟩, τ'⟩ := r
    obtain ⟨L', t, ht, ht5, hO', hC'⟩ := hr
    dsimp only at L' hO' hC' ⊢
    have hx2 := hx.mono L'
    repeat' (with_reducible (first | refine W.bind ?_ | refine W.ixIc (by assumption) (by assumption) ?_))
    refine W.to (number_eq (by omega) (by omega)) ?_
    repeat' (with_reducible (first | refine W.ret ?_ | refine W.bind ?_))
    have h0 := Int.emod_nonneg n (show (1099511627776 : Int) ≠ 0 by omega)
    have h1 := Int.emod_lt_of_pos n (show (0 : Int) < 1099511627776 by omega)
    have w : IntKind.i64.wrap (Int.tdiv (n % 1099511627776) 7) = n % 1099511627776 / 7 := by
      rw [Int.tdiv_eq_ediv_of_nonneg h0, wrapS] <;> omega
    rw [w]
    refine W.to (lit_eq (by omega) hv) ?_
    repeat' (with_reducible refine W.ret ?_)
    refine W.pushI hC' L' (by omega) (by omega) fun c2 τ2 L2 hC2 X2 => ?_
    repeat' (with_reducible (first | refine W.next ?_ | refine W.ret ?_))
    refine ⟨by omega, sk, L2, ?_, ?_⟩
    · unfold stepC; rw [← ht]; exact hO'.mono X2
    · unfold stepC; rw [← ht]; exact hC2
  · repeat' (with_reducible refine W.stop ?_)
    rw [List.take_of_length_le (by omega)] at hO hC hci
    generalize l.foldl (stepC vars) ([], []) = s at *
    have c4 := hci.len2
    obtain ⟨c1, c2, c3⟩ := hci
    have hCl := hC.sl
    unfold endC
    repeat' (with_reducible (first | refine W.bind ?_ | refine W.len (by assumption) ?_))
    (with_reducible refine W.cnd (fun hcc => ?_) (fun hcc => ?_) <;> (try simp only [q1, q2, q3, q4, q5, q6, q7, q8, q9, q10, q11, q12, q13, q14, q15, q16, q17, q18, q19, q20, q21, q22, q23, q24, q25, q26, q27, q28, q29, q30, Kd.ty] at hcc) <;> (try (exfalso; omega)))
    · refine W.scalS hCl ?_
      have hO' := hO.mono (Hle.out _ _)
      refine W.push hO' L (cs := [c]) (a := s.2) ⟨c, rfl, hO.apart hC, hC.from (Nat.le_refl _)⟩ (by omega) (by omega) fun o' τ' L' hO'' _ => ?_
      repeat' (with_reducible refine W.ret ?_)
      rw [if_pos (by omega)]
      exact ⟨L', hO''⟩
    · repeat' (with_reducible refine W.ret ?_)
      rw [if_neg (by omega)]
      exact ⟨L, hO.mono (Hle.out _ _)⟩
end Go.Proofs.YtekehmgfedmflaaDoor.A

/- A formula out of numbers. -/
namespace Go.Proofs.YtekehmgfedmflaaDoor.A
open Go
section
variable {α β : Type} {v : Vw α} {w : Vw β} {n m k l : Nat} {σ τ : Heap} {xs : List α} {ys : List β} {x y : AVal} {cs : List AVal}
theorem out_get (τ : Heap) (x : AVal) (l : Nat) (h : ∀ off len c, x ≠ .sl l off len c) : (out τ x).get l = τ.get l := by
  cases x with
  | sl k off len c =>
    show (τ.kill k).get l = _
    rw [hkill_get, if_neg (fun e => h off len c (by rw [e]))]
  | _ => rfl
theorem Acc.kill (h : Acc v n σ xs x) (hv : v.Over n) (hk : k < n) : Acc v n (σ.kill k) xs x := by
  rcases h with h | ⟨l, cs, h1, h2, h3, h4, h5, h6⟩
  · exact .inl h
  · refine .inr ⟨l, cs, h1, h2, h3, by rw [hkill_get, if_neg (by omega)]; exact h4, h5, fun i a hi => ?_⟩
    refine hv (σ.kill l) ((σ.kill k).kill l) _ _ (Nat.le_refl _) (fun j o hj hg => ?_) (h6 i a hi)
    rw [hkill_get] at hg ⊢
    split at hg
    · cases hg
    · rename_i h; rw [if_neg h, hkill_get, if_neg (by omega)]; exact hg
theorem Loc.out (h : Loc σ l cs) (hx : ∀ off len c, x ≠ .sl l off len c) : Loc (out σ x) l cs := ⟨by rw [out_next]; exact h.lt, h.get.elim fun sz e => ⟨sz, by rw [out_get _ _ _ hx]; exact e⟩⟩
/-- Of two lists that lie apart each lies outside of the other one. -/
theorem Acc.swap (hv : v.Flat) (hx : Acc v n τ xs x) (hy : Acc w m (A.out τ x) ys y) : Acc v n (A.out τ y) xs x := by
  rcases hx with hx | ⟨l, cs, rfl, h2, h3, h4, h5, h6⟩
  · exact .inl hx
  · refine .inr ⟨l, cs, rfl, h2, by rw [out_next]; exact h3, ?_, h5, fun i a hi => hv _ _ _ _ (h6 i a hi)⟩
    rw [out_get _ _ _ fun off len c e => ?_]
    · exact h4
    · subst e
      rcases hy with ⟨e, _⟩ | ⟨j, ds, e, _, _, k4, _⟩
      · cases e
      · cases e
        have k4 : (τ.kill l).get l = _ := k4
        rw [hkill_get, if_pos rfl] at k4; cases k4
end
end Go.Proofs.YtekehmgfedmflaaDoor.A

/- A formula out of numbers, whole. -/
namespace Go.Proofs.YtekehmgfedmflaaDoor.A
open Go
theorem Acc.widen {σ : Heap} {n m : Nat} {xs : List (List Int)} {x : AVal} (h : Acc (vIsF n) n σ xs x) (hm : m ≤ n) : Acc (vIsF m) m σ xs x := by
  rcases h with h | ⟨j, cs, e1, e2, e3, e4, e5, e6⟩
  · exact .inl h
  · exact .inr ⟨j, cs, e1, by omega, e3, e4, e5, fun i a hi => by
      obtain ⟨u, q1, q2, q3⟩ := e6 i a hi
      exact ⟨u, q1, q2, fun l off len c e => by have := q3 l off len c e; omega⟩⟩
theorem cnf_w {σ : Heap} {l : List Int} {vars : Int} {x : AVal} (hx : SlV .int σ l x) (hb : l.length ≤ 1000000) (hv : vars ≤ 1000000) :
    W (S.skolemmake_CNF x vars σ) fun r => Hle σ r.2 ∧ ∃ y, r.1 = .agg [.int .i64 vars, y] ∧ Acc (vIsF σ.next) σ.next r.2 (clausesOf l vars) y := by
  unfold S.skolemmake_CNF
  refine W.new fun l1 τ hl1 L h1 hnτ => ?_
  refine W.call (clauses_w (hx.mono L) hb hv) fun r hr => ?_
  obtain ⟨y, τ2⟩ := r
  obtain ⟨L2, hA⟩ := hr
  dsimp only at L2 hA ⊢
  replace L := L.mono L2
  replace h1 := h1.mono L2
  have hnx := L2.next
  refine W.scalS hA.sl ?_
  refine W.st0 h1 (by rfl) fun τ3 L3 hnτ3 h1 => ?_
  repeat' (with_reducible (first | refine W.ret ?_ | refine W.ldGL (by assumption) (Nat.le_of_ble_eq_true (by with_unfolding_all rfl)) ?_))
  exact ⟨L.ofk (by omega) L3, y, rfl, ((hA.kill (k := l1) (vIsF_over _) (by omega)).mono L3).widen (by omega)⟩

end Go.Proofs.YtekehmgfedmflaaDoor.A

/- What is true in a model; what a proof shows; the document's Of, Sat, Values. -/
namespace Go.Proofs.YtekehmgfedmflaaDoor.A
open Go
/-! ### Models -/
def holds (m : Nat → Bool) (l : Int) : Bool := m l.natAbs == decide (0 < l)
def tru (m : Nat → Bool) (c : List Int) : Prop := ∃ l ∈ c, holds m l = true
def mods (m : Nat → Bool) (D : List (List Int)) : Prop := ∀ c ∈ D, tru m c
def nz (D : List (List Int)) : Prop := ∀ c ∈ D, ∀ l ∈ c, l ≠ 0
theorem holds_neg {m : Nat → Bool} {l : Int} (h : l ≠ 0) : holds m (-l) = !holds m l := by
  unfold holds
  rw [Int.natAbs_neg]
  by_cases h1 : 0 < l
  · have : ¬ 0 < -l := by omega
    simp only [h1, this, decide_true, decide_false]; cases m l.natAbs <;> rfl
  · have : 0 < -l := by omega
    simp only [h1, this, decide_true, decide_false]; cases m l.natAbs <;> rfl
theorem Der.holds {D : List (List Int)} {s : List Int} {m : Nat → Bool} (hD : mods m D) (hz : nz D) (hs : ∀ l ∈ s, A.holds m l = true) {l : Int} (h : Der D s l) : A.holds m l = true := by
  induction h with
  | start h => exact hs _ h
  | unit hc hl _ ih =>
    rename_i c l _
    obtain ⟨k, hk, ht⟩ := hD c hc
    by_cases e : k = l
    · rw [← e]; exact ht
    · have := ih k hk e
      rw [holds_neg (hz c hc k hk), ht] at this
      cases this
theorem Conf.false {D : List (List Int)} {s : List Int} {m : Nat → Bool} (hD : mods m D) (hz : nz D) (hs : ∀ l ∈ s, A.holds m l = true) (h : Conf D s) (hs0 : ∀ l ∈ s, l ≠ 0) : False := by
  rcases h with ⟨l, h1, h2⟩ | ⟨c, hc, h⟩
  · have e1 := h1.holds hD hz hs
    have e2 := h2.holds hD hz hs
    have hl : l ≠ 0 := by
      cases h1 with
      | start h => exact hs0 _ h
      | unit hc hl _ => exact hz _ hc _ hl
    rw [holds_neg hl, e1] at e2; cases e2
  · obtain ⟨k, hk, ht⟩ := hD c hc
    have := (h k hk).holds hD hz hs
    rw [holds_neg (hz c hc k hk), ht] at this
    cases this
theorem tru_norm {m : Nat → Bool} {c : List Int} : tru m (normL c) ↔ tru m c := ⟨fun ⟨l, h, k⟩ => ⟨l, normL_mem.1 h, k⟩, fun ⟨l, h, k⟩ => ⟨l, normL_mem.2 h, k⟩⟩
end Go.Proofs.YtekehmgfedmflaaDoor.A

/- Lists of lists of one's own; DratGoals. -/
namespace Go.Proofs.YtekehmgfedmflaaDoor.A
open Go
/-! ### Views, by their values -/
theorem slIs_of {σ : Heap} {ws : List AVal} {cs : List (List Int)} {x : AVal} (h : SlV vRaw σ ws x) (hl : ws.length = cs.length) (hc : ∀ (i : Nat) (c : List Int), cs[i]? = some c → ∃ w, ws[i]? = some w ∧ SlV .int σ c w) : SlV vIs σ cs x := by
  rcases h with ⟨rfl, rfl⟩ | ⟨l, off, c, md, us, rfl, h2, h3, h4, h5⟩
  · have : cs = [] := List.eq_nil_of_length_eq_zero (by simpa using hl.symm)
    exact .inl ⟨rfl, this⟩
  · refine .inr ⟨l, off, c, md, us, by rw [hl], h2, h3, by rw [← hl]; exact h4, fun i a ha => ?_⟩
    obtain ⟨w, hw, hs⟩ := hc i a ha
    exact ⟨w, h5 i w hw, hs⟩
/-- A step, by its values. -/
def vBR : Vw (Bool × AVal) := ⟨2, fun _ a us => us = [.bool a.1, a.2], by decide, fun h => by rw [h]; rfl, fun _ h => h⟩
end Go.Proofs.YtekehmgfedmflaaDoor.A

/- Clauses that are built; DratDrops, plain. -/
namespace Go.Proofs.YtekehmgfedmflaaDoor.A
open Go
/-- Lists, by their values. -/
def AllV (σ : Heap) (T : Tg) (cs : List (List Int)) (ws : List AVal) : Prop := ws.length = cs.length ∧ ∀ (i : Nat) (c : List Int), cs[i]? = some c → ∃ w, ws[i]? = some w ∧ SlV .int (σ.at T 0) c w
section
variable {σ τ : Heap} {T T' : Tg} {I : Nat → Bool} {cs : List (List Int)} {ws : List AVal} {c : List Int} {w : AVal}
theorem AllV.hop (h : AllV σ T cs ws) (H : Hop I σ T τ T') (hI : I 0 = false := by rfl) : AllV τ T' cs ws := ⟨h.1, fun i c hc => (h.2 i c hc).imp fun w hw => ⟨hw.1, hw.2.hop H hI⟩⟩
theorem AllV.hle (h : AllV σ T cs ws) (L : Hle σ τ) : AllV τ T cs ws := ⟨h.1, fun i c hc => (h.2 i c hc).imp fun w hw => ⟨hw.1, hw.2.hle L⟩⟩
theorem AllV.vIs {x : AVal} (h : AllV σ T cs ws) (hx : SlV vRaw σ ws x) : SlV A.vIs σ cs x := slIs_of hx h.1 fun i c hc => (h.2 i c hc).imp fun w hw => ⟨hw.1, hw.2.up⟩
end
end Go.Proofs.YtekehmgfedmflaaDoor.A

/- The engine's propagation: how it lies in the heap. -/
namespace Go.Proofs.YtekehmgfedmflaaDoor.A
open Go
/-! ### Families: each list has a tag of its own -/
section
variable {σ τ : Heap} {T T' : Tg} {b k : Nat} {xs : List (List Int)} {ws : List AVal} {I : Nat → Bool} {a : List Int} {y : AVal}
def Fam (σ : Heap) (T : Tg) (b : Nat) (xs : List (List Int)) (ws : List AVal) : Prop := ws.length = xs.length ∧ ∀ i a y, xs[i]? = some a → ws[i]? = some y → Own .int (σ.at T (b + 2 * i)) a y
theorem Fam.len (h : Fam σ T b xs ws) : ws.length = xs.length := h.1
theorem Fam.get (h : Fam σ T b xs ws) (hi : k < xs.length) : ∃ a y, xs[k]? = some a ∧ ws[k]? = some y ∧ Own .int (σ.at T (b + 2 * k)) a y := by
  have h1 := List.getElem?_eq_getElem hi
  have h2 := List.getElem?_eq_getElem (show k < ws.length by rw [h.1]; exact hi)
  exact ⟨_, _, h1, h2, h.2 k _ _ h1 h2⟩
theorem Fam.nil : Fam σ T b [] [] := ⟨rfl, fun i a y h => by simp at h⟩
theorem Fam.hop (h : Fam σ T b xs ws) (H : Hop I σ T τ T') (hI : ∀ i, I (b + 2 * i) = false := by intro i; simp <;> omega) : Fam τ T' b xs ws := ⟨h.1, fun i a y h1 h2 => (h.2 i a y h1 h2).hop H (hI i)⟩
theorem Fam.hle (h : Fam σ T b xs ws) (L : Hle σ τ) : Fam τ T b xs ws := ⟨h.1, fun i a y h1 h2 => (h.2 i a y h1 h2).hle L⟩
/-- One of a family was turned. -/
theorem Fam.hopAt (h : Fam σ T b xs ws) (H : Hop (only (b + 2 * k)) σ T τ T') (hO : Own .int (τ.at T' (b + 2 * k)) a y) : Fam τ T' b (xs.set k a) (ws.set k y) := by
  refine ⟨by simp [h.1], fun i c z h1 h2 => ?_⟩
  by_cases e : k = i
  · subst e
    rw [List.getElem?_set] at h1 h2
    simp only [if_true] at h1 h2
    split at h1
    · split at h2
      · cases h1; cases h2; exact hO
      · cases h2
    · cases h1
  · rw [List.getElem?_set_ne e] at h1 h2
    exact (h.2 i c z h1 h2).hop H (by simp; omega)
theorem Fam.push (h : Fam σ T b xs ws) (hO : Own .int (σ.at T (b + 2 * xs.length)) a y) : Fam σ T b (xs ++ [a]) (ws ++ [y]) := by
  refine ⟨by simp [h.1], fun i c z h1 h2 => ?_⟩
  rcases Nat.lt_trichotomy i xs.length with hl | hl | hl
  · rw [List.getElem?_append_left hl] at h1
    rw [List.getElem?_append_left (by rw [h.1]; exact hl)] at h2
    exact h.2 i c z h1 h2
  · subst hl
    rw [List.getElem?_append_right (Nat.le_refl _)] at h1
    rw [List.getElem?_append_right (by rw [h.1]; exact Nat.le_refl _), h.1] at h2
    simp only [Nat.sub_self, List.getElem?_cons_zero] at h1 h2
    cases h1; cases h2; exact hO
  · have := (List.getElem?_eq_some_iff.1 h1).1
    simp at this; omega
end
/-! ### Pushes of several cells -/
theorem W.own_pushN {R : Type} {Q : R → Prop} {σ : Heap} {T : Tg} {t : Nat} {xs : List AVal} {x : AVal} (h : Own vRaw (σ.at T t) xs x) (hn : Tn σ T) (ws : List AVal) {n bytes : Nat} (hw : ws.length = n) (hb : (xs.length + ws.length) * bytes ≤ 70368744177664) (hb' : xs.length + ws.length ≤ 70368744177664) {K : AVal → Heap → Option R}
    (c : ∀ x' τ T', Own vRaw (τ.at T' t) (xs ++ ws) x' → Hop (only t) σ T τ T' → W (K x' τ) Q) : W (newK σ 1 ws fun l τ => appS τ 1 bytes x (.sl l 0 n none) K) Q := by
  subst hw
  have L1 := (Hle.refl σ).new (.cells .rw 1 ws)
  have hsl : SlV vRaw (σ.new (.cells .rw 1 ws)) ws (.sl σ.next 0 ws.length none) := by
    refine .inr ⟨σ.next, 0, none, .rw, ws, rfl, Nat.lt_succ_self _, by rw [hnew_get, if_pos rfl]; rfl, by simp [vRaw], fun i a hi => ?_⟩
    obtain ⟨h8, h9⟩ := List.getElem?_eq_some_iff.1 hi
    show _ = _
    simp only [vRaw, Nat.mul_one, Nat.zero_add]
    rw [List.drop_eq_getElem_cons h8]
    simp [h9]
  refine W.own_app vRaw_flat (h.mono (L1.ats T t)) (hn.mono L1) hsl hb hb' fun x' τ T' h1 h2 => ?_
  exact c x' τ T' h1 ((Hop.of hn L1).trans h2)

/-! ### Values -/
section
variable {σ τ : Heap} {T T' : Tg} {la t u vars : Nat} {xa : AVal} {vs : List Int}
theorem asgGrow_w (h1 : Loc (σ.at T t) la [xa]) (h2 : Own .i8 (σ.at T u) vs xa) (hn : Tn σ T) (htu : t ≠ u) (hv : vars ≤ 4000) (hl : vs.length ≤ 4001) :
    W (S.assign_Assign_Grow (.ptr la 0) (vars : Int) σ) fun r => ∃ T' xa', Hop (fun j => j == t || j == u) σ T r.2 T' ∧ Loc (r.2.at T' t) la [xa'] ∧ Own .i8 (r.2.at T' u) (vs ++ List.replicate (vars + 1 - vs.length) 0) xa' := by
  unfold S.assign_Assign_Grow
  refine W.bind ?_
  have hut : (only u) t = false := by simp; exact htu
  have htu' : (only t) u = false := by simp; exact fun e => htu e.symm
  refine W.mono (P := fun r => ∃ T' xa', Hop (fun j => j == t || j == u) σ T r.2 T' ∧ Loc (r.2.at T' t) la [xa'] ∧ Own .i8 (r.2.at T' u) (vs ++ List.replicate (vars + 1 - vs.length) 0) xa') ?_ fun r hr => W.ret hr
  refine W.loopI (m := vars + 1 - vs.length) (fun m (_ : Unit) τ => ∃ T' xa' k, Hop (fun j => j == t || j == u) σ T τ T' ∧ Loc (τ.at T' t) la [xa'] ∧ Own .i8 (τ.at T' u) (vs ++ List.replicate k 0) xa' ∧ m + k = vars + 1 - vs.length) ⟨T, xa, 0, Hop.refl hn, h1, by simpa using h2, by omega⟩ fun m _ τ hI => ?_
  obtain ⟨T', xa', k, H, h1, h2, e⟩ := hI
  unfold S.assign_Assign_Grow.b0
  repeat' (with_reducible (first | refine W.bind ?_ | refine W.asV ?_ | refine W.fldp ?_ | refine W.nck ?_ | refine W.ldL (Loc.up (by assumption)) (by with_unfolding_all rfl) ?_ | refine W.len (Own.slT (by assumption)) ?_))
  refine W.to (cut_eq (by omega) (by omega)) ?_
  repeat' (with_reducible refine W.ret ?_)
  (with_reducible refine W.cnd (fun hc => ?_) (fun hc => ?_) <;> (try simp only [q1, q2, q3, q4, q5, q6, q7, q8, q9, q10, q11, q12, q13, q14, q15, q16, q17, q18, q19, q20, q21, q22, q23, q24, q25, q26, q27, q28, q29, q30, Kd.ty] at hc) <;> (try (exfalso; omega)))
  · repeat' (with_reducible (first | refine W.asV ?_ | refine W.fldp ?_ | refine W.nck ?_ | refine W.ldL (Loc.up (by assumption)) (by with_unfolding_all rfl) ?_))
    refine W.own_push Vw.i8_flat h2 H.tn (a := 0) rfl (by simp; omega) (by simp; omega) fun x2 τ2 T2 h2 H2 => ?_
    have h1 := h1.hop H2 hut
    repeat' (with_reducible (first | refine W.fldp ?_ | refine W.nck ?_ | refine W.scalS (Own.slT (by assumption)) ?_))
    refine W.stT h1 H2.tn (Nat.le_of_ble_eq_true (by rfl)) fun τ3 H3 h1 _ => ?_
    repeat' (with_reducible refine W.next ?_)
    refine ⟨m - 1, by simp at *; omega, T2, x2, k + 1, (H.hop H2 (fun i hi => by simp at hi ⊢; exact .inr hi)).hop H3 (fun i hi => by simp at hi ⊢; exact .inl hi), h1, ?_, by simp at *; omega⟩
    have := h2.hop H3 htu'
    rw [List.append_assoc] at this
    rwa [List.replicate_succ', ]
  · repeat' (with_reducible refine W.stop ?_)
    refine ⟨T', xa', H, h1, ?_⟩
    have : k = vars + 1 - vs.length := by simp at *; omega
    rw [← this]; exact h2
theorem asgVars_eq (h1 : Loc (σ.at T t) la [xa]) (h2 : Own .i8 (σ.at T u) vs xa) (hl : vs.length ≤ 4001) : S.assign_Assign_Vars (.ptr la 0) σ = some ((vs.length : Int) - 1) := by
  obtain ⟨r, e, rfl⟩ : W (S.assign_Assign_Vars (.ptr la 0) σ) fun r => r = (vs.length : Int) - 1 := by
    unfold S.assign_Assign_Vars
    repeat' (with_reducible (first | refine W.ret ?_ | refine W.asV ?_ | refine W.fldp ?_ | refine W.nck ?_ | refine W.ldL (Loc.up (by assumption)) (by with_unfolding_all rfl) ?_ | refine W.len (Own.slT (by assumption)) ?_))
    rw [wrapS] <;> omega
  exact e
end
/-! ### The propagation's state -/
/-- What it holds. -/
structure PS where
  vs : List Int
  lev : List Int
  rea : List Int
  trail : List Int
  marks : List Int
  head : Int
  cls : List (List Int × Bool × Bool)
  wat : List (List Int)
  loose : List Int
/-- Where it lies. -/
structure PH where
  la : Nat
  xa : AVal
  xl : AVal
  xr : AVal
  xt : AVal
  xm : AVal
  xc : AVal
  xw : AVal
  xo : AVal
  cs : List (AVal × Bool × Bool)
  ws : List AVal
/-- A clause's three cells. -/
def vCl : Vw (AVal × Bool × Bool) := ⟨3, fun _ a us => us = [a.1, .bool a.2.1, .bool a.2.2], by omega, fun h => by rw [h]; rfl, fun _ h => h⟩
theorem vCl_flat : vCl.Flat := fun _ _ _ _ h => h
def pI : Nat → Bool := fun j => (decide (1 ≤ j) && decide (j ≤ 10)) || decide (50 ≤ j)
theorem Hop.inP {σ0 σ τ : Heap} {T0 T T' : Tg} {t : Nat} (h : Hop pI σ0 T0 σ T) (H : Hop (only t) σ T τ T') (ht : pI t = true := by rfl) : Hop pI σ0 T0 τ T' := h.trans (H.sub (fun i hi => by
  have : i = t := by simpa using hi
  rw [this]; exact ht))
structure PropH (σ : Heap) (T : Tg) (lp : Nat) (h : PH) (s : PS) : Prop where
  obj : Loc (σ.at T 1) lp [.ptr h.la 0, h.xl, h.xr, h.xt, h.xm, .int .i64 s.head, h.xc, h.xw, h.xo]
  asg : Loc (σ.at T 2) h.la [h.xa]
  vs : Own .i8 (σ.at T 3) s.vs h.xa
  lev : Own .int (σ.at T 4) s.lev h.xl
  rea : Own .int (σ.at T 5) s.rea h.xr
  trail : Own .int (σ.at T 6) s.trail h.xt
  marks : Own .int (σ.at T 7) s.marks h.xm
  cls : Own vCl (σ.at T 8) h.cs h.xc
  wat : Own vRaw (σ.at T 9) h.ws h.xw
  loose : Own .int (σ.at T 10) s.loose h.xo
  cf : Fam σ T 50 (s.cls.map (·.1)) (h.cs.map (·.1))
  cb : h.cs.map (·.2) = s.cls.map (·.2)
  wf : Fam σ T 51 s.wat h.ws
section
variable {σ τ : Heap} {T T' : Tg} {lp vars : Nat} {h : PH} {s : PS} {I : Nat → Bool}
theorem PropH.hop (p : PropH σ T lp h s) (H : Hop I σ T τ T') (h1 : ∀ j, pI j = true → I j = false) : PropH τ T' lp h s :=
  ⟨p.obj.hop H (h1 _ rfl), p.asg.hop H (h1 _ rfl), p.vs.hop H (h1 _ rfl), p.lev.hop H (h1 _ rfl), p.rea.hop H (h1 _ rfl), p.trail.hop H (h1 _ rfl), p.marks.hop H (h1 _ rfl), p.cls.hop H (h1 _ rfl), p.wat.hop H (h1 _ rfl), p.loose.hop H (h1 _ rfl),
    p.cf.hop H (fun i => h1 _ (by simp [pI])), p.cb, p.wf.hop H (fun i => h1 _ (by simp [pI]; omega))⟩
theorem PropH.hle (p : PropH σ T lp h s) (L : Hle σ τ) : PropH τ T lp h s :=
  ⟨p.obj.hle L, p.asg.hle L, p.vs.hle L, p.lev.hle L, p.rea.hle L, p.trail.hle L, p.marks.hle L, p.cls.hle L, p.wat.hle L, p.loose.hle L, p.cf.hle L, p.cb, p.wf.hle L⟩
/-- All of one length. -/
structure PLen (n : Nat) (s : PS) : Prop where
  vs : s.vs.length = n
  lev : s.lev.length = n
  rea : s.rea.length = n
  wat : s.wat.length = 2 * n
/-- More variables. -/
def PS.grow (s : PS) (k : Nat) : PS := { s with vs := s.vs ++ List.replicate k 0, lev := s.lev ++ List.replicate k (-1), rea := s.rea ++ List.replicate k (-1), wat := s.wat ++ List.replicate (2 * k) [] }
theorem propGrow_w {n : Nat} (p : PropH σ T lp h s) (hn : Tn σ T) (hL : PLen n s) (h0 : 1 ≤ n) (hv : vars ≤ 4000) (hl : n ≤ 4001) :
    W (S.prop_Prop_Grow (.ptr lp 0) (vars : Int) σ) fun r => ∃ T' h', Hop pI σ T r.2 T' ∧ PropH r.2 T' lp h' (s.grow (vars + 1 - n)) := by
  obtain ⟨k1, k2, k3, k4, k5, k6, k7, k8, k9, k10, k11, k12, k13⟩ := p
  obtain ⟨e1, e2, e3, e4⟩ := hL
  unfold S.prop_Prop_Grow
  repeat' (with_reducible (first | refine W.bind ?_ | refine W.asV ?_ | refine W.fldp ?_ | refine W.nck ?_ | refine W.ldL (Loc.up (by assumption)) (by with_unfolding_all rfl) ?_))
  refine W.mono (asgGrow_w k2 k3 hn (by decide) hv (by omega)) fun r hr => ?_
  obtain ⟨r, τ⟩ := r
  obtain ⟨T1, xa, H, k2, k3⟩ := hr
  dsimp only at H k2 k3 ⊢
  replace k1 := k1.hop H
  replace k4 := k4.hop H
  replace k5 := k5.hop H
  replace k6 := k6.hop H
  replace k7 := k7.hop H
  replace k8 := k8.hop H
  replace k9 := k9.hop H
  replace k10 := k10.hop H
  replace k11 := k11.hop H
  replace k13 := k13.hop H
  replace hn := H.tn
  rw [e1] at k3
  refine W.bind ?_
  refine W.mono (P := fun r => ∃ T' h', Hop pI σ T r.2 T' ∧ PropH r.2 T' lp h' (s.grow (vars + 1 - n))) ?_ fun r hr => W.ret hr
  have H0 : Hop pI σ T τ T1 := H.sub (fun i hi => by simp [pI] at hi ⊢; omega)
  refine W.loopI (m := vars + 1 - n) (fun m (_ : Unit) τ => ∃ T' xl xr xw ws k, Hop pI σ T τ T' ∧ m + k = vars + 1 - n ∧
    Loc (τ.at T' 1) lp [.ptr h.la 0, xl, xr, h.xt, h.xm, .int .i64 s.head, h.xc, xw, h.xo] ∧ Loc (τ.at T' 2) h.la [xa] ∧ Own .i8 (τ.at T' 3) (s.vs ++ List.replicate (vars + 1 - n) 0) xa ∧ Own .int (τ.at T' 4) (s.lev ++ List.replicate k (-1)) xl ∧
    Own .int (τ.at T' 5) (s.rea ++ List.replicate k (-1)) xr ∧ Own .int (τ.at T' 6) s.trail h.xt ∧ Own .int (τ.at T' 7) s.marks h.xm ∧ Own vCl (τ.at T' 8) h.cs h.xc ∧ Own vRaw (τ.at T' 9) ws xw ∧ Own .int (τ.at T' 10) s.loose h.xo ∧
    Fam τ T' 50 (s.cls.map (·.1)) (h.cs.map (·.1)) ∧ Fam τ T' 51 (s.wat ++ List.replicate (2 * k) []) ws) ⟨T1, h.xl, h.xr, h.xw, h.ws, 0, H0, by omega, k1, k2, k3, by simpa using k4, by simpa using k5, k6, k7, k8, k9, k10, k11, by simpa using k13⟩ fun m _ τ hI => ?_
  obtain ⟨T2, xl, xr, xw, ws, k, HH, ek, k1, k2, k3, k4, k5, k6, k7, k8, k9, k10, k11, k13⟩ := hI
  have hn := HH.tn
  have hws := k13.1
  simp only [List.length_append, List.length_replicate] at hws
  unfold S.prop_Prop_Grow.b0
  repeat' (with_reducible (first | refine W.bind ?_ | refine W.asV ?_ | refine W.fldp ?_ | refine W.nck ?_ | refine W.ldL (Loc.up (by assumption)) (by with_unfolding_all rfl) ?_ | refine W.len (Own.slT (by assumption)) ?_))
  refine W.to (asgVars_eq k2 k3 (by simp; omega)) ?_
  repeat' (with_reducible refine W.ret ?_)
  (with_reducible refine W.cnd (fun hc => ?_) (fun hc => ?_) <;> (try simp only [q1, q2, q3, q4, q5, q6, q7, q8, q9, q10, q11, q12, q13, q14, q15, q16, q17, q18, q19, q20, q21, q22, q23, q24, q25, q26, q27, q28, q29, q30, Kd.ty] at hc) <;> (try (exfalso; omega)))
  · repeat' (with_reducible (first | refine W.asV ?_ | refine W.fldp ?_ | refine W.nck ?_ | refine W.ldL (Loc.up (by assumption)) (by with_unfolding_all rfl) ?_))
    have k1' := k1
    refine W.own_push (bytes := 8) Vw.int_flat k4 hn (a := -1) rfl (by simp; omega) (by simp; omega) fun x1 τ1 T3 k4 H1 => ?_
    replace HH := HH.inP H1
    replace k1 := k1.hop H1
    replace k2 := k2.hop H1
    replace k3 := k3.hop H1
    replace k5 := k5.hop H1
    replace k6 := k6.hop H1
    replace k7 := k7.hop H1
    replace k8 := k8.hop H1
    replace k9 := k9.hop H1
    replace k10 := k10.hop H1
    replace k11 := k11.hop H1
    replace k13 := k13.hop H1
    replace hn := H1.tn
    repeat' (with_reducible (first | refine W.asV ?_ | refine W.chk rfl ?_ | refine W.fldp ?_ | refine W.nck ?_ | refine W.ldL (Loc.up (by assumption)) (by with_unfolding_all rfl) ?_))
    refine W.own_push (bytes := 8) Vw.int_flat k5 hn (a := -1) rfl (by simp; omega) (by simp; omega) fun x2 τ2 T4 k5 H2 => ?_
    replace HH := HH.inP H2
    replace k1 := k1.hop H2
    replace k2 := k2.hop H2
    replace k3 := k3.hop H2
    replace k4 := k4.hop H2
    replace k6 := k6.hop H2
    replace k7 := k7.hop H2
    replace k8 := k8.hop H2
    replace k9 := k9.hop H2
    replace k10 := k10.hop H2
    replace k11 := k11.hop H2
    replace k13 := k13.hop H2
    replace hn := H2.tn
    repeat' (with_reducible (first | refine W.fldp ?_ | refine W.nck ?_ | refine W.scalS (Own.slT (by assumption)) ?_))
    refine W.stT k1 hn (Nat.le_of_ble_eq_true (by rfl)) fun τ3 H3 k1 hnτ3 => ?_
    replace HH := HH.inP H3
    replace k2 := k2.hop H3
    replace k3 := k3.hop H3
    replace k4 := k4.hop H3
    replace k5 := k5.hop H3
    replace k6 := k6.hop H3
    replace k7 := k7.hop H3
    replace k8 := k8.hop H3
    replace k9 := k9.hop H3
    replace k10 := k10.hop H3
    replace k11 := k11.hop H3
    replace k13 := k13.hop H3
    replace hn := H3.tn
    repeat' (with_reducible (first | refine W.fldp ?_ | refine W.nck ?_ | refine W.scalS (Own.slT (by assumption)) ?_))
    refine W.stT k1 hn (Nat.le_of_ble_eq_true (by rfl)) fun τ4 H4 k1 hnτ4 => ?_
    replace HH := HH.inP H4
    replace k2 := k2.hop H4
    replace k3 := k3.hop H4
    replace k4 := k4.hop H4
    replace k5 := k5.hop H4
    replace k6 := k6.hop H4
    replace k7 := k7.hop H4
    replace k8 := k8.hop H4
    replace k9 := k9.hop H4
    replace k10 := k10.hop H4
    replace k11 := k11.hop H4
    replace k13 := k13.hop H4
    replace hn := H4.tn
    repeat' (with_reducible (first | refine W.asV ?_ | refine W.fldp ?_ | refine W.nck ?_ | refine W.ldL (Loc.up (by assumption)) (by with_unfolding_all rfl) ?_))
    refine W.own_pushN (bytes := 24) k9 hn [.nils, .nils] rfl (by simp; omega) (by simp; omega) fun x3 τ5 T5 k9 H5 => ?_
    replace HH := HH.inP H5
    replace k1 := k1.hop H5
    replace k2 := k2.hop H5
    replace k3 := k3.hop H5
    replace k4 := k4.hop H5
    replace k5 := k5.hop H5
    replace k6 := k6.hop H5
    replace k7 := k7.hop H5
    replace k8 := k8.hop H5
    replace k10 := k10.hop H5
    replace k11 := k11.hop H5
    replace k13 := k13.hop H5
    replace hn := H5.tn
    repeat' (with_reducible (first | refine W.fldp ?_ | refine W.nck ?_ | refine W.scalS (Own.slT (by assumption)) ?_))
    refine W.stT k1 hn (Nat.le_of_ble_eq_true (by rfl)) fun τ6 H6 k1 hnτ6 => ?_
    replace HH := HH.inP H6
    replace k2 := k2.hop H6
    replace k3 := k3.hop H6
    replace k4 := k4.hop H6
    replace k5 := k5.hop H6
    replace k6 := k6.hop H6
    replace k7 := k7.hop H6
    replace k8 := k8.hop H6
    replace k9 := k9.hop H6
    replace k10 := k10.hop H6
    replace k11 := k11.hop H6
    replace k13 := k13.hop H6
    replace hn := H6.tn
    repeat' (with_reducible refine W.next ?_)
    refine ⟨m - 1, by simp at *; omega, _, x1, x2, x3, ws ++ [.nils, .nils], k + 1, HH, by simp at *; omega, k1, k2, k3, ?_, ?_, k6, k7, k8, k9, k10, k11, ?_⟩
    · rw [List.append_assoc] at k4; rwa [List.replicate_succ']
    · rw [List.append_assoc] at k5; rwa [List.replicate_succ']
    · have g := (k13.push (a := []) (y := .nils) Own.nil).push (a := []) (y := .nils) Own.nil
      rw [show 2 * (k + 1) = 2 * k + 2 by omega, ← List.replicate_append_replicate]
      simpa [List.append_assoc] using g
  · repeat' (with_reducible refine W.stop ?_)
    have : k = vars + 1 - n := by simp at *; omega
    subst this
    exact ⟨T2, { h with xa := xa, xl := xl, xr := xr, xw := xw, ws := ws }, HH, k1, k2, k3, k4, k5, k6, k7, k8, k9, k10, k11, k12, k13⟩
end
end Go.Proofs.YtekehmgfedmflaaDoor.A

/- The engine's propagation: new, looked at anew. -/
namespace Go.Proofs.YtekehmgfedmflaaDoor.A
open Go
theorem rep_one (u : AVal) : ∀ n : Nat, rep n [u] = List.replicate n u
  | 0 => rfl
  | n + 1 => by rw [rep, rep_one u n, List.replicate_succ]; rfl
/-- So many equal elements of one cell, of one's own. -/
theorem W.mkT {α R : Type} {Q : R → Prop} {v : Vw α} (t : Nat) {σ : Heap} {T : Tg} (hn : Tn σ T) {u : AVal} (a : α) (hsz : v.sz = 1) (hr : ∀ τ, v.rel τ a [u]) {n bytes : Nat} (hb : n * bytes ≤ 70368744177664) (hb' : n ≤ 70368744177664) {z : Int} (hz : z = (n : Int)) {K : AVal → Heap → Option R}
    (c : ∀ x τ T', Hop (only t) σ T τ T' → Own v (τ.at T' t) (List.replicate n a) x → τ.next = σ.next + 1 → W (K x τ) Q) : W (mkS σ 1 bytes [u] z z K) Q := by
  subst hz
  have e : mkS σ 1 bytes [u] (n : Int) (n : Int) K = K (.sl σ.next 0 n none) (σ.new (.cells .rw 1 (List.replicate n u))) := by
    simp only [mkS, newK]
    rw [if_pos ⟨by omega, by omega, by omega, by omega⟩, Int.toNat_natCast, rep_one]
  refine W.to e (c _ _ (T.upd σ.next t) (hop_new hn) (.inr ⟨σ.next, 0, none, _, by simp, Nat.lt_succ_self _, at_of upd_self (by rw [hnew_get, if_pos rfl, hsz]), (fun k e => by cases e), by simp [hsz], fun i b hi => ?_⟩) rfl)
  obtain ⟨h8, h9⟩ := List.getElem?_eq_some_iff.1 hi
  have h8' : i < n := by simpa using h8
  have : b = a := by simpa using h9.symm
  subst this
  rw [hsz, Nat.mul_one, Nat.zero_add, List.drop_eq_getElem_cons (by simpa using h8')]
  simpa using hr _
theorem W.newO {α R : Type} {Q : R → Prop} {v : Vw α} (t : Nat) {σ : Heap} {T : Tg} (hn : Tn σ T) {u : AVal} (a : α) (hsz : v.sz = 1) (hr : ∀ τ, v.rel τ a [u]) {K : Nat → Heap → Option R}
    (c : ∀ l τ T', Hop (only t) σ T τ T' → Own v (τ.at T' t) [a] (.sl l 0 1 none) → τ.next = σ.next + 1 → W (K l τ) Q) : W (newK σ 1 [u] K) Q := by
  refine c σ.next _ (T.upd σ.next t) (hop_new hn) (.inr ⟨σ.next, 0, none, [u], rfl, Nat.lt_succ_self _, at_of upd_self (by rw [hnew_get, if_pos rfl, hsz]), (fun k e => by cases e), by simp [hsz], fun i b hi => ?_⟩) rfl
  match i, hi with
  | 0, hi => cases hi; simpa [hsz] using hr _
  | i + 1, hi => simp at hi
section
variable {σ τ : Heap} {T T' : Tg} {lp vars : Nat} {h : PH} {s : PS}
theorem asgNewT {t u : Nat} (hn : Tn σ T) (htu : t ≠ u) : W (S.assign_New 0 σ) fun r => ∃ T' la xa, r.1 = .ptr la 0 ∧ Hop (fun j => j == t || j == u) σ T r.2 T' ∧ Loc (r.2.at T' t) la [xa] ∧ Own .i8 (r.2.at T' u) [0] xa := by
  unfold S.assign_New
  refine W.bind ?_
  refine W.to (cut_eq (v := 0) (by omega) (by omega)) ?_
  refine W.ret ?_
  refine W.mkT (v := Vw.i8) u hn (0 : Int) rfl (fun _ => rfl) (n := 1) (by omega) (by omega) (by rw [wrapS] <;> omega) fun x τ T1 H1 h1 hnx => ?_
  replace hn := H1.tn
  repeat' (with_reducible refine W.scalS (Own.slT (by assumption)) ?_)
  refine W.newT t hn fun l τ2 T2 hl H2 h2 hnτ2 => ?_
  replace h1 := h1.hop H2 (by simp; omega)
  repeat' (with_reducible refine W.ret ?_)
  exact ⟨T2, l, x, rfl, (H1.sub (fun i hi => by simp at hi ⊢; exact .inr hi)).trans (H2.sub (fun i hi => by simp at hi ⊢; exact .inl hi)), h2, h1⟩
def PS.zero : PS := ⟨[0], [-1], [-1], [], [], 0, [], [[], []], []⟩
theorem propNew_w (hn : Tn σ T) : W (S.prop_New 0 σ) fun r => ∃ T' lp h', r.1 = .ptr lp 0 ∧ Hop pI σ T r.2 T' ∧ PropH r.2 T' lp h' PS.zero := by
  unfold S.prop_New
  refine W.bind ?_
  refine W.mono (asgNewT (t := 2) (u := 3) hn (by decide)) fun r hr => ?_
  obtain ⟨r, τ⟩ := r
  obtain ⟨T1, la, xa, e, H, k2, k3⟩ := hr
  dsimp only at e H k2 k3 ⊢
  subst e
  have HH : Hop pI σ T τ T1 := H.sub (fun i hi => by simp [pI] at hi ⊢; omega)
  replace hn := HH.tn
  refine W.newO (v := Vw.int) 4 hn (-1) rfl (fun _ => rfl) fun l1 τ1 T2 H1 k4 _ => ?_
  replace HH := HH.inP H1
  replace k2 := k2.hop H1
  replace k3 := k3.hop H1
  replace hn := H1.tn
  refine W.newO (v := Vw.int) 5 hn (-1) rfl (fun _ => rfl) fun l2 τ2 T3 H2 k5 _ => ?_
  replace HH := HH.inP H2
  replace k2 := k2.hop H2
  replace k3 := k3.hop H2
  replace k4 := k4.hop H2
  replace hn := H2.tn
  refine W.mkT (v := vRaw) 9 hn .nils rfl (fun _ => rfl) (n := 2) (by omega) (by omega) rfl fun x τ3 T4 H3 k9 _ => ?_
  replace HH := HH.inP H3
  replace k2 := k2.hop H3
  replace k3 := k3.hop H3
  replace k4 := k4.hop H3
  replace k5 := k5.hop H3
  replace hn := H3.tn
  repeat' (with_reducible (first | refine W.scP ?_ | refine W.scalS (Own.slT (by assumption)) ?_))
  refine W.newT 1 hn fun l τ4 T5 hl H4 k1 hnτ4 => ?_
  replace HH := HH.inP H4
  replace k2 := k2.hop H4
  replace k3 := k3.hop H4
  replace k4 := k4.hop H4
  replace k5 := k5.hop H4
  replace k9 := k9.hop H4
  replace hn := H4.tn
  repeat' (with_reducible refine W.bind ?_)
  have p : PropH τ4 T5 l ⟨la, xa, .sl l1 0 1 none, .sl l2 0 1 none, .nils, .nils, .nils, x, .nils, [], [.nils, .nils]⟩ PS.zero :=
    ⟨k1, k2, k3, k4, k5, .nil, .nil, .nil, k9, .nil, .nil, rfl, (Fam.nil.push (a := []) (y := .nils) Own.nil).push (a := []) (y := .nils) Own.nil⟩
  refine W.mono (propGrow_w (vars := 0) (n := 1) p hn ⟨rfl, rfl, rfl, rfl⟩ (by omega) (by omega) (by omega)) fun r hr => ?_
  obtain ⟨r, τ5⟩ := r
  obtain ⟨T6, h', H, p⟩ := hr
  repeat' (with_reducible refine W.ret ?_)
  exact ⟨T6, l, h', rfl, HH.trans H, by simpa [PS.grow, PS.zero] using p⟩
end
end Go.Proofs.YtekehmgfedmflaaDoor.A

/- The heap of variables, as0 far as0 the engine wants it: which are in it. -/
namespace Go.Proofs.YtekehmgfedmflaaDoor.A
open Go
/-- Where it lies. -/
structure HeapH (σ : Heap) (T : Tg) (lh : Nat) (xs xp xh : AVal) (sc pl hs : List Int) : Prop where
  obj : Loc (σ.at T 11) lh [xs, xp, xh]
  sc : Own .int (σ.at T 12) sc xs
  pl : Own .int (σ.at T 13) pl xp
  hs : Own .int (σ.at T 14) hs xh
def hI : Nat → Bool := fun j => decide (11 ≤ j) && decide (j ≤ 14)
theorem Hop.inH {σ0 σ τ : Heap} {T0 T T' : Tg} {t : Nat} (h : Hop hI σ0 T0 σ T) (H : Hop (only t) σ T τ T') (ht : hI t = true := by rfl) : Hop hI σ0 T0 τ T' := h.trans (H.sub (fun i hi => by
  have : i = t := by simpa using hi
  rw [this]; exact ht))
section
variable {σ τ : Heap} {T T' : Tg} {lh : Nat} {xs xp xh : AVal} {sc pl hs : List Int} {I : Nat → Bool}
theorem HeapH.hop (p : HeapH σ T lh xs xp xh sc pl hs) (H : Hop I σ T τ T') (h1 : ∀ j, hI j = true → I j = false) : HeapH τ T' lh xs xp xh sc pl hs := ⟨p.obj.hop H (h1 _ rfl), p.sc.hop H (h1 _ rfl), p.pl.hop H (h1 _ rfl), p.hs.hop H (h1 _ rfl)⟩
theorem HeapH.hle (p : HeapH σ T lh xs xp xh sc pl hs) (L : Hle σ τ) : HeapH τ T lh xs xp xh sc pl hs := ⟨p.obj.hle L, p.sc.hle L, p.pl.hle L, p.hs.hle L⟩
theorem heapPut_w (p : HeapH σ T lh xs xp xh sc pl hs) (hn : Tn σ T) {k v : Nat} (hk : k < hs.length) (hv : v < pl.length) (hb : hs.length ≤ 1000000) :
    W (S.heap_Heap_put (.ptr lh 0) (k : Int) (v : Int) σ) fun r => Hop hI σ T r.2 T ∧ HeapH r.2 T lh xs xp xh sc (pl.set v ((k : Int) + 1)) (hs.set k (v : Int)) := by
  obtain ⟨k1, k2, k3, k4⟩ := p
  unfold S.heap_Heap_put
  repeat' (with_reducible (first | refine W.asV ?_ | refine W.fldp ?_ | refine W.nck ?_ | refine W.ldL (Loc.up (by assumption)) (by with_unfolding_all rfl) ?_))
  refine W.ixO k4.slT (i := k) hk ?_
  refine W.own_setI k4 hn hk fun τ1 k4 H1 _ => ?_
  have HH : Hop hI σ T τ1 T := (Hop.refl hn).inH H1
  replace k1 := k1.hop H1
  replace k2 := k2.hop H1
  replace k3 := k3.hop H1
  replace hn := H1.tn
  repeat' (with_reducible (first | refine W.asV ?_ | refine W.fldp ?_ | refine W.nck ?_ | refine W.ldL (Loc.up (by assumption)) (by with_unfolding_all rfl) ?_))
  have w : IntKind.i64.wrap ((k : Int) + 1) = (k : Int) + 1 := by rw [wrapS] <;> omega
  rw [w]
  refine W.ixO k3.slT (i := v) hv ?_
  refine W.own_setI k3 hn hv fun τ2 k3 H2 _ => ?_
  replace HH := HH.inH H2
  replace k1 := k1.hop H2
  replace k2 := k2.hop H2
  replace k4 := k4.hop H2
  replace hn := H2.tn
  repeat' (with_reducible refine W.ret ?_)
  exact ⟨HH, k1, k2, k3, k4⟩
theorem heapAhead_w (p : HeapH σ T lh xs xp xh sc pl hs) {a b : Nat} (ha : a < sc.length) (hb : b < sc.length) : W (S.heap_Heap_ahead (.ptr lh 0) (a : Int) (b : Int) σ) fun _ => True := by
  obtain ⟨k1, k2, k3, k4⟩ := p
  obtain ⟨u, hu⟩ : ∃ u, sc[a]? = some u := ⟨_, List.getElem?_eq_getElem ha⟩
  obtain ⟨w, hw⟩ : ∃ w, sc[b]? = some w := ⟨_, List.getElem?_eq_getElem hb⟩
  unfold S.heap_Heap_ahead
  repeat' (with_reducible (first | refine W.bind ?_ | refine W.asV ?_ | refine W.fldp ?_ | refine W.nck ?_ | refine W.ldL (Loc.up (by assumption)) (by with_unfolding_all rfl) ?_ | refine W.ixIc (Own.slT (by assumption)) (by assumption) ?_))
  (with_reducible refine W.cnd (fun hc => ?_) (fun hc => ?_) <;> (try simp only [q1, q2, q3, q4, q5, q6, q7, q8, q9, q10, q11, q12, q13, q14, q15, q16, q17, q18, q19, q20, q21, q22, q23, q24, q25, q26, q27, q28, q29, q30, Kd.ty] at hc) <;> (try (exfalso; omega)))
  · repeat' (with_reducible refine W.ret ?_)
    trivial
  · repeat' (with_reducible (first | refine W.asV ?_ | refine W.fldp ?_ | refine W.nck ?_ | refine W.ldL (Loc.up (by assumption)) (by with_unfolding_all rfl) ?_ | refine W.ixIc (Own.slT (by assumption)) (by assumption) ?_))
    (with_reducible refine W.cnd (fun hc => ?_) (fun hc => ?_) <;> (try simp only [q1, q2, q3, q4, q5, q6, q7, q8, q9, q10, q11, q12, q13, q14, q15, q16, q17, q18, q19, q20, q21, q22, q23, q24, q25, q26, q27, q28, q29, q30, Kd.ty] at hc) <;> (try (exfalso; omega)))
    · repeat' (with_reducible refine W.ret ?_)
      trivial
    · repeat' (with_reducible refine W.ret ?_)
      trivial
theorem heapIs_eq (p : HeapH σ T lh xs xp xh sc pl hs) {v : Int} : S.heap_Heap_is (.ptr lh 0) v σ = some (decide (0 < v ∧ v < sc.length)) := by
  obtain ⟨r, e, rfl⟩ : W (S.heap_Heap_is (.ptr lh 0) v σ) fun r => r = decide (0 < v ∧ v < sc.length) := by
    obtain ⟨k1, k2, k3, k4⟩ := p
    unfold S.heap_Heap_is
    repeat' (with_reducible refine W.bind ?_)
    (with_reducible refine W.cnd (fun h0 => ?_) (fun h0 => ?_) <;> (try simp only [q1, q2, q3, q4, q5, q6, q7, q8, q9, q10, q11, q12, q13, q14, q15, q16, q17, q18, q19, q20, q21, q22, q23, q24, q25, q26, q27, q28, q29, q30, Kd.ty] at h0) <;> (try (exfalso; omega)))
    · repeat' (with_reducible (first | refine W.ret ?_ | refine W.asV ?_ | refine W.fldp ?_ | refine W.nck ?_ | refine W.ldL (Loc.up (by assumption)) (by with_unfolding_all rfl) ?_ | refine W.len (Own.slT (by assumption)) ?_))
      simp; omega
    · repeat' (with_reducible refine W.ret ?_)
      simp; omega
  exact e
end
end Go.Proofs.YtekehmgfedmflaaDoor.A

/- Which are in the heap: the plain law of its places. -/
namespace Go.Proofs.YtekehmgfedmflaaDoor.A
open Go
structure HW (sc pl hs : List Int) : Prop where
  len : pl.length = sc.length
  rng : ∀ (k : Nat) (v : Int), hs[k]? = some v → 0 < v ∧ v < sc.length
  at_ : ∀ (v k : Nat), v < sc.length → (pl.getD v 0 = (k : Int) + 1 ↔ hs[k]? = some (v : Int))
  nn : ∀ v : Nat, 0 ≤ pl.getD v 0
theorem getD_setI {xs : List Int} {i j : Nat} {a : Int} (hi : i < xs.length) : (xs.set i a).getD j 0 = if i = j then a else xs.getD j 0 := by
  rw [List.getD_eq_getElem?_getD, List.getElem?_set, List.getD_eq_getElem?_getD]
  by_cases e : i = j
  · subst e; simp [hi]
  · simp [e]
theorem get_setI {xs : List Int} {i j : Nat} {a : Int} (hi : i < xs.length) : (xs.set i a)[j]? = if i = j then some a else xs[j]? := by
  rw [List.getElem?_set]
  by_cases e : i = j
  · subst e; simp [hi]
  · simp [e]
theorem HW.swap {sc pl hs : List Int} {k q v w : Nat} (hpl : pl.length = sc.length) (hv : v < sc.length) (hk : k < hs.length) (hq : q < hs.length) (hne : q ≠ k) (hw : hs[q]? = some (w : Int)) (H : HW sc (pl.set v ((k : Int) + 1)) (hs.set k (v : Int))) :
    w < sc.length ∧ w ≠ v ∧ HW sc ((pl.set w ((k : Int) + 1)).set v ((q : Int) + 1)) ((hs.set k (w : Int)).set q (v : Int)) := by
  have hne' : k ≠ q := fun e => hne e.symm
  have r := H.rng q w (by rw [get_setI hk, if_neg hne']; exact hw)
  have hwl : w < sc.length := by omega
  have hwv : w ≠ v := fun e => by
    have h1 := (H.at_ v k hv).2 (by rw [get_setI hk, if_pos rfl])
    have h2 := (H.at_ w q hwl).2 (by rw [get_setI hk, if_neg hne']; exact hw)
    rw [e, h1] at h2; omega
  refine ⟨hwl, hwv, by simp [hpl], fun j u hj => ?_, fun u j hu => ?_, fun u => ?_⟩
  · rw [get_setI (by simpa using hq), get_setI hk] at hj
    split at hj
    · cases hj
      have := H.rng k v (by rw [get_setI hk, if_pos rfl]); exact this
    · split at hj
      · cases hj; exact r
      · rename_i h1 h2
        exact H.rng j u (by rw [get_setI hk, if_neg h2]; exact hj)
  · have A := H.at_ u j hu
    have Bw := (H.at_ w q hwl).2 (by rw [get_setI hk, if_neg hne']; exact hw)
    rw [getD_setI (by omega), if_neg (fun e => hwv e.symm)] at Bw
    rw [getD_setI (by omega), get_setI hk] at A
    rw [getD_setI (by simp; omega), getD_setI (by omega), get_setI (by simpa using hq), get_setI hk]
    by_cases e1 : v = u
    · subst e1
      rw [if_pos rfl] at A ⊢
      by_cases e2 : q = j
      · subst e2; simp
      · rw [if_neg e2]
        by_cases e3 : k = j
        · subst e3
          rw [if_pos rfl]
          constructor
          · intro h; omega
          · intro h; have := Option.some.inj h; omega
        · rw [if_neg e3] at A ⊢
          constructor
          · intro h; omega
          · intro h; have := A.2 h; omega
    · rw [if_neg e1] at A ⊢
      by_cases e2 : w = u
      · subst e2
        rw [if_pos rfl]
        by_cases e3 : q = j
        · subst e3
          rw [if_pos rfl]
          constructor
          · intro h; omega
          · intro h; have := Option.some.inj h; omega
        · rw [if_neg e3]
          by_cases e4 : k = j
          · subst e4; simp
          · rw [if_neg e4] at A ⊢
            constructor
            · intro h; omega
            · intro h; have := A.2 h; omega
      · rw [if_neg e2]
        by_cases e3 : q = j
        · subst e3
          rw [if_neg hne', hw] at A
          rw [if_pos rfl]
          constructor
          · intro h; have := Option.some.inj (A.1 h); omega
          · intro h; have := Option.some.inj h; omega
        · rw [if_neg e3]
          by_cases e4 : k = j
          · subst e4
            rw [if_pos rfl] at A ⊢
            constructor
            · intro h; have := Option.some.inj (A.1 h); omega
            · intro h; have := Option.some.inj h; omega
          · rw [if_neg e4] at A ⊢; exact A
  · rw [getD_setI (by simp; omega), getD_setI (by omega)]
    have := H.nn u
    rw [getD_setI (by omega)] at this
    split
    · omega
    · split
      · omega
      · rename_i h1 h2
        rw [if_neg h1] at this; exact this
end Go.Proofs.YtekehmgfedmflaaDoor.A

/- The engine's propagation: clauses come in. -/
namespace Go.Proofs.YtekehmgfedmflaaDoor.A
open Go
/-- Own cells get a tag. -/
theorem FreshO.own {σ τ : Heap} {T : Tg} {xs : List Int} {y : AVal} (u : Nat) (h : FreshO σ.next τ xs y) (hn : Tn σ T) (L : Hle σ τ) : ∃ T', Hop (only u) σ T τ T' ∧ Own .int (τ.at T' u) xs y := by
  rcases h with ⟨rfl, rfl⟩ | ⟨l, off, c, cs, rfl, h1, h2, h3, h4, h5, h6⟩
  · exact ⟨T, Hop.of hn L, .nil⟩
  · refine ⟨T.upd l u, ⟨L.next, ⟨fun k hk => by rw [upd_ne (by omega)]; exact hn.z k (Nat.le_trans L.next hk)⟩, fun k hk hI => ?_, fun k o hk hI hg => ?_⟩, .inr ⟨l, off, c, cs, rfl, h2, at_of upd_self h3, h4, h5, h6⟩⟩
    · exact upd_ne (by omega)
    · exact L.get k o hk hg

/-- The place of a literal's watches. -/
def wAt (l : Int) : Nat := if l < 0 then (-2 * l + 1).toNat else (2 * l).toNat
theorem at_eq {σ : Heap} {l : Int} (h : l.natAbs ≤ 1000000) : S.prop_at l σ = some (wAt l : Int) := by
  obtain ⟨r, e, rfl⟩ : W (S.prop_at l σ) fun r => r = (wAt l : Int) := by
    unfold S.prop_at wAt
    (with_reducible refine W.cnd (fun hl => ?_) (fun hl => ?_) <;> (try simp only [q1, q2, q3, q4, q5, q6, q7, q8, q9, q10, q11, q12, q13, q14, q15, q16, q17, q18, q19, q20, q21, q22, q23, q24, q25, q26, q27, q28, q29, q30, Kd.ty] at hl) <;> (try (exfalso; omega)))
    · repeat' (with_reducible refine W.ret ?_)
      have w : IntKind.i64.wrap (-2 * l) = -2 * l := by rw [wrapS] <;> omega
      rw [if_pos hl, w, wrapS] <;> omega
    · repeat' (with_reducible refine W.ret ?_)
      rw [if_neg (by omega), wrapS] <;> omega
  exact e
section
variable {σ τ : Heap} {T T' : Tg} {lp vars : Nat} {h : PH} {s : PS}
theorem PropH.clen (p : PropH σ T lp h s) : h.cs.length = s.cls.length := by have := congrArg List.length p.cb; simpa using this
theorem PropH.cget (p : PropH σ T lp h s) {id : Nat} {c : List Int} {b f : Bool} (hi : s.cls[id]? = some (c, b, f)) : ∃ y, h.cs[id]? = some (y, b, f) ∧ Own .int (σ.at T (50 + 2 * id)) c y := by
  have hlt := (List.getElem?_eq_some_iff.1 hi).1
  obtain ⟨z, hz⟩ : ∃ z, h.cs[id]? = some z := ⟨_, List.getElem?_eq_getElem (by rw [p.clen]; exact hlt)⟩
  have h1 : (h.cs.map (·.2))[id]? = some z.2 := by rw [List.getElem?_map, hz]; rfl
  rw [p.cb, List.getElem?_map, hi] at h1
  have h2 : z.2 = (b, f) := by simpa using h1.symm
  refine ⟨z.1, by rw [hz]; congr 1; exact Prod.ext rfl h2, p.cf.2 id c z.1 (by rw [List.getElem?_map, hi]; rfl) (by rw [List.getElem?_map, hz]; rfl)⟩
/-- A clause stands among those that are looked at anew. -/
def PS.look (s : PS) (id : Nat) : PS := match s.cls[id]? with
  | some (l, b, false) => { s with cls := s.cls.set id (l, b, true), loose := s.loose ++ [(id : Int)] }
  | _ => s
theorem map_set_same {α β : Type} {f : α → β} {xs : List α} {i : Nat} {a b : α} (h : xs[i]? = some a) (e : f b = f a) : (xs.set i b).map f = xs.map f := by
  obtain ⟨hlt, h⟩ := List.getElem?_eq_some_iff.1 h
  rw [List.map_set, e, ← h, ← List.getElem_map f (h := by simpa using hlt), List.set_getElem_self]
theorem propLook_w (p : PropH σ T lp h s) (hn : Tn σ T) {id : Nat} (hi : id < s.cls.length) (hb : s.loose.length ≤ 8700000000000) (hb2 : s.cls.length ≤ 1010000000000) :
    W (S.prop_Prop_look (.ptr lp 0) (id : Int) σ) fun r => ∃ T' h', Hop pI σ T r.2 T' ∧ PropH r.2 T' lp h' (s.look id) := by
  obtain ⟨⟨c, b, f⟩, hc⟩ : ∃ z, s.cls[id]? = some z := ⟨_, List.getElem?_eq_getElem hi⟩
  obtain ⟨y, hy, hO⟩ := p.cget hc
  have hcl := p.clen
  have hll : PS.look s id = (bif f then s else { s with cls := s.cls.set id (c, b, true), loose := s.loose ++ [(id : Int)] }) := by
    unfold PS.look
    rw [hc]
    cases f <;> rfl
  rw [hll]
  have p0 := p
  obtain ⟨k1, k2, k3, k4, k5, k6, k7, k8, k9, k10, k11, k12, k13⟩ := p
  unfold S.prop_Prop_look
  repeat' (with_reducible (first | refine W.asV ?_ | refine W.fldp ?_ | refine W.nck ?_ | refine W.ldL (Loc.up (by assumption)) (by with_unfolding_all rfl) ?_))
  refine W.ixO k8.slT (i := id) (by omega) ?_
  refine W.fldO k8.slT (i := id) (k := 0) (j := 2) (by omega) ?_
  refine W.ldO k8.slT hy (u := .bool f) (fun us h => by rw [show us = [y, .bool b, .bool f] from h]; rfl) ?_
  repeat' (with_reducible refine W.asB ?_)
  cases f with
  | true =>
    refine W.condF rfl ?_
    repeat' (with_reducible refine W.ret ?_)
    exact ⟨T, h, Hop.refl hn, p0⟩
  | false =>
    refine W.condT rfl ?_
    repeat' (with_reducible (first | refine W.asV ?_ | refine W.fldp ?_ | refine W.nck ?_ | refine W.ldL (Loc.up (by assumption)) (by with_unfolding_all rfl) ?_))
    refine W.ixO k8.slT (i := id) (by omega) ?_
    refine W.fldO k8.slT (i := id) (k := 0) (j := 2) (by omega) ?_
    refine W.own_set vCl_flat k8 hn hy (k := 2) [y, .bool b, .bool false] (y, b, true) (by decide) (fun bs h => h) (fun _ => rfl) fun τ1 k8 H1 _ => ?_
    have HH : Hop pI σ T τ1 T := (Hop.refl hn).inP H1
    replace k1 := k1.hop H1
    replace k2 := k2.hop H1
    replace k3 := k3.hop H1
    replace k4 := k4.hop H1
    replace k5 := k5.hop H1
    replace k6 := k6.hop H1
    replace k7 := k7.hop H1
    replace k9 := k9.hop H1
    replace k10 := k10.hop H1
    replace k11 := k11.hop H1
    replace k13 := k13.hop H1
    replace hn := H1.tn
    repeat' (with_reducible (first | refine W.asV ?_ | refine W.fldp ?_ | refine W.nck ?_ | refine W.ldL (Loc.up (by assumption)) (by with_unfolding_all rfl) ?_))
    refine W.own_push (bytes := 8) Vw.int_flat k10 hn (a := (id : Int)) rfl (by omega) (by omega) fun x2 τ2 T2 k10 H2 => ?_
    replace HH := HH.inP H2
    replace k1 := k1.hop H2
    replace k2 := k2.hop H2
    replace k3 := k3.hop H2
    replace k4 := k4.hop H2
    replace k5 := k5.hop H2
    replace k6 := k6.hop H2
    replace k7 := k7.hop H2
    replace k8 := k8.hop H2
    replace k9 := k9.hop H2
    replace k11 := k11.hop H2
    replace k13 := k13.hop H2
    replace hn := H2.tn
    repeat' (with_reducible (first | refine W.fldp ?_ | refine W.nck ?_ | refine W.scalS (Own.slT (by assumption)) ?_))
    refine W.stT k1 hn (Nat.le_of_ble_eq_true (by rfl)) fun τ3 H3 k1 hnτ3 => ?_
    replace HH := HH.inP H3
    replace k2 := k2.hop H3
    replace k3 := k3.hop H3
    replace k4 := k4.hop H3
    replace k5 := k5.hop H3
    replace k6 := k6.hop H3
    replace k7 := k7.hop H3
    replace k8 := k8.hop H3
    replace k9 := k9.hop H3
    replace k10 := k10.hop H3
    replace k11 := k11.hop H3
    replace k13 := k13.hop H3
    replace hn := H3.tn
    repeat' (with_reducible refine W.ret ?_)
    refine ⟨T2, { h with xo := x2, cs := h.cs.set id (y, b, true) }, HH, k1, k2, k3, k4, k5, k6, k7, k8, k9, k10, ?_, ?_, k13⟩
    · show Fam τ3 T2 50 ((s.cls.set id (c, b, true)).map (·.1)) ((h.cs.set id (y, b, true)).map (·.1))
      rw [map_set_same (f := (·.1)) (b := (c, b, true)) hc rfl, map_set_same (f := (·.1)) (b := (y, b, true)) hy rfl]; exact k11
    · show (h.cs.set id (y, b, true)).map (·.2) = (s.cls.set id (c, b, true)).map (·.2)
      rw [List.map_set, List.map_set, k12]
end
end Go.Proofs.YtekehmgfedmflaaDoor.A
