/- Copies, joins, merged blocks; equal lists. -/
import Derived.Test.YtgneblbblihaoaaDoorUS
import Derived.Test.YtgneblbblihaoaaDoorJ0
set_option linter.all false
namespace Go.Proofs.YtgneblbblihaoaaDoor.A
open Go

theorem eqS_nil {x : AVal} {α : Type} {v : Vw α} {σ : Heap} {xs : List α} (h : SlV v σ xs x) : (x = .nils ∧ xs = []) ∨ ∀ {Rt : Type} (K : Bool → Option Rt), eqS x .nils K = K false := by
  rcases h with h | ⟨l, off, c, md, cs, rfl, _⟩
  · exact .inl h
  · exact .inr fun K => rfl

theorem clone_eq {σ : Heap} {xs : List Int} {x : AVal} (h : SlV .int σ xs x) (hb : xs.length ≤ 1000000) :
    ∃ y τ, S.slices_Clone_int_int x σ = some (y, τ) ∧ Hle σ τ ∧ Acc .int σ.next τ xs y := by
  unfold S.slices_Clone_int_int
  rcases eqS_nil h with ⟨rfl, rfl⟩ | h1
  · exact ⟨.nils, σ, rfl, Hle.refl _, Acc.nil _ _ _⟩
  · rw [h1]
    simp only [cond_false, newK]
    have ha : Acc Vw.int σ.next (σ.new (.cells .rw 1 [])) [] (.sl σ.next 0 0 none) := .inr ⟨σ.next, [], rfl, Nat.le_refl _, Nat.lt_succ_self _, by simp [Heap.new, Vw.int], by simp, fun i a hi => by simp at hi⟩
    have L := (Hle.refl σ).new (.cells .rw 1 [])
    obtain ⟨y, τ, e1, e2, e3, _⟩ := ha.app (bytes := 8) (w := x) (ys := xs) L (h.mono (ha.out_le L)) (by simp; omega) (by simp; omega)
    have e1 : ∀ {Rt : Type} (K : AVal → Heap → Option Rt), appS (σ.new (.cells .rw 1 [])) 1 8 (.sl σ.next 0 0 none) x K = K y τ := e1
    exact ⟨y, τ, by rw [e1], e2, by simpa using e3⟩

theorem grow_nil {σ : Heap} {n : Nat} (hb : n ≤ 1000000) : ∃ y τ, S.slices_Grow_int_int .nils (n : Int) σ = some (y, τ) ∧ Hle σ τ ∧ Acc .int σ.next τ [] y := by
  unfold S.slices_Grow_int_int
  have h1 : decide ((n : Int) < 0) = false := by simp
  have w0 : IntKind.i64.wrap (0 - 0) = 0 := by decide
  have w1 : IntKind.i64.wrap ((n : Int) - 0) = n := by rw [wrapS] <;> omega
  simp only [h1, cond_false, Option.bind_some, capV, lenV, w0, w1]
  by_cases hn : n = 0
  · subst hn
    exact ⟨.nils, σ, rfl, Hle.refl _, Acc.nil _ _ _⟩
  · have h2 : decide ((n : Int) > 0) = true := by simp; omega
    simp only [h2, cond_true]
    have e1 : ∀ {Rt : Type} (K : AVal → Option Rt), slS σ 1 .nils 0 (some 0) none K = K .nils := fun K => by simp [slS]
    have e2 : ∀ {Rt : Type} (K : AVal → Heap → Option Rt), appZ σ 1 8 [.int .i64 0] .nils (n : Int) K = K (.sl σ.next 0 n none) (σ.new (.cells .rw 1 (rep n [.int .i64 0]))) := fun K => by
      simp only [appZ, newK]; rw [if_neg (by omega), if_pos ⟨by omega, by omega, by omega⟩]; simp
    have e3 : ∀ {Rt : Type} (K : AVal → Option Rt), slS (σ.new (.cells .rw 1 (rep n [.int .i64 0]))) 1 (.sl σ.next 0 n none) 0 (some 0) none K = K (.sl σ.next 0 0 none) := fun K => by
      simp only [slS, hnew_get, if_true]
      rw [if_pos ⟨trivial, by omega, by simp, by simp, by simp, by simp⟩]; rfl
    rw [e1, e2, e3]
    exact ⟨_, _, rfl, (Hle.refl σ).new _, .inr ⟨σ.next, _, rfl, Nat.le_refl _, Nat.lt_succ_self _, by simp only [hnew_get, if_true]; rfl, by simp, fun i a hi => by simp at hi⟩⟩

def sumLen (zs : List (List Int)) : Nat := zs.flatten.length
theorem take_flat_le (zs : List (List Int)) (i : Nat) : (zs.take i).flatten.length ≤ zs.flatten.length := by
  conv => rhs; rw [← List.take_append_drop i zs]
  rw [List.flatten_append, List.length_append]; omega
theorem take_succ_flat {zs : List (List Int)} {i : Nat} {z : List Int} (h : zs[i]? = some z) : (zs.take (i + 1)).flatten = (zs.take i).flatten ++ z := by
  rw [List.take_add_one, h, List.flatten_append]; simp

theorem ld_sl {σ : Heap} {α : Type} {v : Vw α} {p : AVal} {xs : List α} {us : List AVal} (h : At σ p us) (hr : v.sl.rel σ xs us) : ∃ x, (∀ {Rt : Type} (K : AVal → Option Rt), ld σ p .V K = K x) ∧ SlV v σ xs x ∧ us = [x] := by
  obtain ⟨x, rfl, hx⟩ := hr
  exact ⟨x, fun K => by rw [h.ld]; rfl, hx, rfl⟩
theorem ld_i {σ : Heap} {p : AVal} {a : Int} {us : List AVal} (h : At σ p us) (hr : Vw.int.rel σ a us) {Rt : Type} (K : Int → Option Rt) : ld σ p (.I .i64) K = K a := by
  have hr : us = [.int .i64 a] := hr
  subst hr; rw [h.ld]; simp [asK]

theorem concat_eq {σ : Heap} {zs : List (List Int)} {x : AVal} (h : SlV (Vw.sl .int) σ zs x) (hb : zs.flatten.length ≤ 1000000) (hb2 : zs.length ≤ 1000000) :
    ∃ y τ, S.slices_Concat_int_int x σ = some (y, τ) ∧ Hle σ τ ∧ Acc .int σ.next τ zs.flatten y := by
  unfold S.slices_Concat_int_int
  rw [h.len]
  obtain ⟨s, τ1, e1, rfl, rfl⟩ := loopW_inv (f := S.slices_Concat_int_int.b0 x zs.length) (x := (0, 0)) (σ := σ) zs.length (fun i y τ => y = (((zs.take i).flatten.length : Int), (i : Int)) ∧ τ = σ) (fun y τ => y = (zs.flatten.length : Int) ∧ τ = σ)
    (fun i y τ hi hI => by
      obtain ⟨rfl, rfl⟩ := hI
      obtain ⟨z, hz⟩ : ∃ z, zs[i]? = some z := ⟨_, List.getElem?_eq_getElem hi⟩
      obtain ⟨p, us, hA, hr, e1⟩ := h.ix hz
      obtain ⟨w, e2, hw, _⟩ := ld_sl hA hr
      refine .inl ⟨_, τ, ?_, rfl, rfl⟩
      unfold S.slices_Concat_int_int.b0
      have hd : decide ((i : Int) < (zs.length : Int)) = true := by simp; omega
      have hle := take_flat_le zs (i + 1)
      rw [take_succ_flat hz, List.length_append] at hle
      have w1 : IntKind.i64.wrap ((((zs.take i).flatten.length : Nat) : Int) + (z.length : Int)) = (((zs.take (i + 1)).flatten.length : Nat) : Int) := by
        rw [take_succ_flat hz, List.length_append, wrapS] <;> omega
      have w2 : IntKind.i64.wrap ((i : Int) + 1) = ((i + 1 : Nat) : Int) := by rw [wrapS] <;> omega
      have hn : decide ((((zs.take (i + 1)).flatten.length : Nat) : Int) < 0) = false := decide_eq_false (by omega)
      simp only [hd, cond_true]
      rw [show ixA τ x 1 = ixA τ x (Vw.sl Vw.int).sz from rfl, e1 (Hle.refl _), e2, hw.len, w1]
      simp only [hn, cond_false, Option.bind_some, w2])
    (fun y τ hI => by
      obtain ⟨rfl, rfl⟩ := hI
      rw [List.take_length]
      refine ⟨_, τ, ?_, rfl, rfl⟩
      unfold S.slices_Concat_int_int.b0
      have hd : decide ((zs.length : Int) < (zs.length : Int)) = false := by simp
      simp only [hd, cond_false]) ⟨by simp, rfl⟩
  rw [e1]
  simp only [Option.bind_some]
  obtain ⟨y0, τ0, g1, g2, g3⟩ := grow_nil (σ := τ1) hb
  rw [g1]
  simp only [Option.bind_some]
  rw [h.len]
  obtain ⟨y, τ, e2, L, hA⟩ := loopW_inv (f := S.slices_Concat_int_int.b1 x zs.length) (x := (y0, 0)) (σ := τ0) zs.length (fun i y τ => y.2 = (i : Int) ∧ Hle τ1 τ ∧ Acc .int τ1.next τ (zs.take i).flatten y.1) (fun y τ => Hle τ1 τ ∧ Acc .int τ1.next τ zs.flatten y)
    (fun i y τ hi hI => by
      obtain ⟨h1, L, hA⟩ := hI
      obtain ⟨y, j⟩ := y
      simp only at h1; subst h1
      obtain ⟨z, hz⟩ : ∃ z, zs[i]? = some z := ⟨_, List.getElem?_eq_getElem hi⟩
      obtain ⟨p, us, hp, hr, e1⟩ := h.ix hz
      obtain ⟨w, e2, hs, rfl⟩ := ld_sl hp hr
      have e2 : ∀ {Rt : Type} (K : AVal → Option Rt), ld τ p .V K = K w := fun K => by rw [(hp.mono L).ld]; rfl
      have hs := hs.mono (hA.out_le L)
      have hle := take_flat_le zs (i + 1)
      rw [take_succ_flat hz, List.length_append] at hle
      obtain ⟨y', τ', a1, a2, a3, _⟩ := hA.app (bytes := 8) L hs (by omega) (by omega)
      have a1 : ∀ {Rt : Type} (K : AVal → Heap → Option Rt), appS τ 1 8 y w K = K y' τ' := a1
      refine .inl ⟨(y', ((i + 1 : Nat) : Int)), τ', ?_, rfl, a2, by rw [take_succ_flat hz]; exact a3⟩
      unfold S.slices_Concat_int_int.b1
      have hd : decide ((i : Int) < (zs.length : Int)) = true := by simp; omega
      have w2 : IntKind.i64.wrap ((i : Int) + 1) = ((i + 1 : Nat) : Int) := by rw [wrapS] <;> omega
      simp only [hd, cond_true]
      rw [show ixA τ x 1 = ixA τ x (Vw.sl Vw.int).sz from rfl, e1 L, e2, a1]
      simp only [w2])
    (fun y τ hI => by
      obtain ⟨h1, L, hA⟩ := hI
      obtain ⟨y, j⟩ := y
      simp only at h1; subst h1
      refine ⟨_, τ, ?_, L, by rw [List.take_length] at hA; exact hA⟩
      unfold S.slices_Concat_int_int.b1
      have hd : decide ((zs.length : Int) < (zs.length : Int)) = false := by simp
      simp only [hd, cond_false]) ⟨rfl, g2, by simpa using g3⟩
  rw [e2]
  exact ⟨y, τ, rfl, L, hA⟩

theorem sameInts_eq {σ : Heap} {xs ys : List Int} {x y : AVal} (hx : SlV .int σ xs x) (hy : SlV .int σ ys y) (hb : xs.length ≤ 1000000) : S.skolemref_SameInts x y σ = some (decide (xs = ys)) := by
  unfold S.skolemref_SameInts
  rw [hx.len, hy.len]
  by_cases hl : xs.length = ys.length
  · have hc : ((xs.length : Int) != (ys.length : Int)) = false := by simp [hl]
    rw [hc]
    simp only [cond_false]
    obtain ⟨r, e1, e2⟩ := loopP_inv (f := S.skolemref_SameInts.b0 x y σ) (x := (0 : Int)) xs.length (fun i z => z = (i : Int) ∧ ∀ j, j < i → xs[j]? = ys[j]?) (fun r => (r = .inl () ∧ xs = ys) ∨ (r = .inr false ∧ xs ≠ ys))
      (fun i z hi hI => by
        obtain ⟨rfl, hI⟩ := hI
        obtain ⟨a, ha⟩ : ∃ a, xs[i]? = some a := ⟨_, List.getElem?_eq_getElem hi⟩
        obtain ⟨b, hb⟩ : ∃ b, ys[i]? = some b := ⟨_, List.getElem?_eq_getElem (by omega)⟩
        obtain ⟨p, us, c2, c3, c1⟩ := hx.ix ha
        obtain ⟨q, bs, d2, d3, d1⟩ := hy.ix hb
        have hd : decide ((i : Int) < (xs.length : Int)) = true := by simp; omega
        have w2 : IntKind.i64.wrap ((i : Int) + 1) = ((i + 1 : Nat) : Int) := by rw [wrapS] <;> omega
        have key : S.skolemref_SameInts.b0 x y σ (i : Int) = cond (!(a == b)) (some (.inr (.inr false))) (some (.inl ((i + 1 : Nat) : Int))) := by
          unfold S.skolemref_SameInts.b0
          rw [hx.len, hd]
          simp only [cond_true]
          rw [show ixA σ x 1 = ixA σ x Vw.int.sz from rfl, show ixA σ y 1 = ixA σ y Vw.int.sz from rfl, c1 (Hle.refl _), ld_i c2 c3, d1 (Hle.refl _), ld_i d2 d3, w2]
        rw [key]
        by_cases hab : a = b
        · subst hab
          refine .inl ⟨_, by simp only [beq_self_eq_true, Bool.not_true, cond_false], rfl, fun j hj => ?_⟩
          rcases Nat.lt_succ_iff_lt_or_eq.1 hj with hj | rfl
          · exact hI j hj
          · rw [ha, hb]
        · refine .inr ⟨.inr false, by rw [show (a == b) = false by simpa using hab]; rfl, .inr ⟨rfl, fun e => ?_⟩⟩
          subst e; rw [ha] at hb; cases hb; exact hab rfl)
      (fun z hI => by
        obtain ⟨rfl, hI⟩ := hI
        refine ⟨.inl (), ?_, .inl ⟨rfl, ?_⟩⟩
        · unfold S.skolemref_SameInts.b0
          have hd : decide ((xs.length : Int) < (xs.length : Int)) = false := by simp
          rw [hx.len, hd]; rfl
        · apply List.ext_getElem? fun j => ?_
          by_cases hj : j < xs.length
          · exact hI j hj
          · rw [List.getElem?_eq_none (by omega), List.getElem?_eq_none (by omega)]) ⟨rfl, fun j hj => by omega⟩
    rw [e1]
    simp only [Option.bind_some]
    rcases e2 with ⟨rfl, e⟩ | ⟨rfl, e⟩
    · simp [e]
    · simp [e]
  · have hc : ((xs.length : Int) != (ys.length : Int)) = true := by simp; omega
    rw [hc]
    have : xs ≠ ys := fun e => hl (by rw [e])
    simp [this]
end Go.Proofs.YtgneblbblihaoaaDoor.A
