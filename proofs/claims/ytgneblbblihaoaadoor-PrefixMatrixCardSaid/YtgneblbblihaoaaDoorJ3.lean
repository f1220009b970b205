/- Merge; equal blocks. -/
import Derived.Test.YtgneblbblihaoaaDoorJ2
set_option linter.all false
namespace Go.Proofs.YtgneblbblihaoaaDoor.A
open Go

theorem total_append (a b : List (Bool × List Int)) : total (a ++ b) = total a + total b := by simp [total]
theorem total_set_last {out : List (Bool × List Int)} {a : Bool × List Int} (h : out.getLast? = some a) (c : Bool × List Int) : total (out.set (out.length - 1) c) + a.2.length = total out + c.2.length := by
  obtain ⟨l, rfl⟩ := List.getLast?_eq_some_iff.1 h
  have : (l ++ [a]).set ((l ++ [a]).length - 1) c = l ++ [c] := by
    rw [List.length_append, List.length_singleton, Nat.add_sub_cancel, List.set_append_right _ _ (Nat.le_refl _)]; simp
  rw [this, total_append, total_append]; simp [total]; omega
theorem mergeB_total (out : List (Bool × List Int)) (b) : total (mergeB out b) = total out + b.2.length := by
  unfold mergeB; split
  · rename_i h; simp [h]
  · split
    · rename_i a h
      split
      · have := total_set_last h (a.1, a.2 ++ b.2); simp at this; omega
      · rw [total_append]; simp [total]
    · rw [total_append]; simp [total]
theorem total_mem {out : List (Bool × List Int)} {a : Bool × List Int} (h : a ∈ out) : a.2.length ≤ total out := by
  obtain ⟨s, t, rfl⟩ := List.append_of_mem h
  rw [total_append]; simp [total]; omega
theorem total_take (bs : List (Bool × List Int)) (i : Nat) : total (bs.take i) ≤ total bs := by
  conv => rhs; rw [← List.take_append_drop i bs]
  rw [total_append]; omega

theorem foldl_merge : ∀ (bs out : List (Bool × List Int)), total (bs.foldl mergeB out) = total out + total bs ∧ (bs.foldl mergeB out).length ≤ out.length + bs.length
  | [], out => by simp [total]
  | b :: bs, out => by
    have h1 := foldl_merge bs (mergeB out b)
    have h2 := mergeB_total out b
    have h3 := mergeB_len out b
    refine ⟨?_, ?_⟩
    · rw [List.foldl_cons, h1.1, h2]; simp [total]; omega
    · rw [List.foldl_cons, List.length_cons]; omega

theorem merge_eq {σ : Heap} {bs : List (Bool × List Int)} {x : AVal} (hx : SlV vB σ bs x) (hb : bs.length ≤ 10000) (ht : total bs ≤ 500000) :
    ∃ y τ, S.prefix_Merge x σ = some (y, τ) ∧ Hle σ τ ∧ Acc vB σ.next τ (merge bs) y := by
  unfold S.prefix_Merge
  rw [hx.len]
  obtain ⟨y, τ, e, L, hA⟩ := loopW_inv (f := S.prefix_Merge.b0 x bs.length) (x := (.nils, 0)) (σ := σ) bs.length (fun i y τ => y.2 = (i : Int) ∧ Hle σ τ ∧ Acc vB σ.next τ ((bs.take i).foldl mergeB []) y.1) (fun y τ => Hle σ τ ∧ Acc vB σ.next τ (merge bs) y)
    (fun i y τ hi hI => by
      obtain ⟨h1, L, hA⟩ := hI
      obtain ⟨y, j⟩ := y
      simp only at h1; subst h1
      obtain ⟨b, hb'⟩ : ∃ b, bs[i]? = some b := ⟨_, List.getElem?_eq_getElem hi⟩
      obtain ⟨f1, f2⟩ := foldl_merge (bs.take i) []
      have f3 := total_take bs i
      have f0 : total ([] : List (Bool × List Int)) = 0 := rfl
      have f4 : (bs.take i).length ≤ bs.length := List.length_take_le' ..
      have f5 := total_mem (List.mem_of_getElem? hb')
      obtain ⟨y', τ', e1, e2, e3⟩ := merge_step (N := 500000) hx hb' hb L hA (by simp at f2 ⊢; omega) (fun a ha => by have := total_mem ha; omega) (by omega) (Nat.le_refl _)
      refine .inl ⟨_, τ', e1, rfl, e2, ?_⟩
      rw [List.take_add_one, hb', List.foldl_append]; exact e3)
    (fun y τ hI => by
      obtain ⟨h1, L, hA⟩ := hI
      obtain ⟨y, j⟩ := y
      simp only at h1; subst h1
      refine ⟨y, τ, ?_, L, by rw [List.take_length] at hA; exact hA⟩
      unfold S.prefix_Merge.b0
      have hd : decide ((bs.length : Int) < (bs.length : Int)) = false := by simp
      simp only [hd, cond_false]) ⟨rfl, Hle.refl _, by simpa using Acc.nil vB σ.next σ⟩
  rw [e]
  exact ⟨y, τ, rfl, L, hA⟩

theorem sameBlock_eq {σ : Heap} {a b : Bool × List Int} {u w : List AVal} (ha : vB.rel σ a u) (hb : vB.rel σ b w) (hl : a.2.length ≤ 1000000) : ∃ τ, S.skolemref_SameBlock (.agg u) (.agg w) σ = some (decide (a = b), τ) ∧ Hle σ τ := by
  obtain ⟨x, rfl, hx⟩ := vB_rel ha
  obtain ⟨y, rfl, hy⟩ := vB_rel hb
  unfold S.skolemref_SameBlock
  simp only [aggK, newK, List.length_cons, List.length_nil, if_true]
  generalize h1 : σ.new (.cells .rw 2 [.bool a.1, x]) = σ1
  generalize h2 : σ1.new (.cells .rw 2 [.bool b.1, y]) = σ2
  have L1 : Hle σ σ1 := by rw [← h1]; exact (Hle.refl σ).new _
  have L2 : Hle σ1 σ2 := by rw [← h2]; exact (Hle.refl σ1).new _
  have A1 : At σ2 (.ptr σ.next 0) [.bool a.1, x] := by
    have := At.new σ 2 [.bool a.1, x]; rw [h1] at this; exact this.mono L2
  have A2 : At σ2 (.ptr σ1.next 0) [.bool b.1, y] := by
    have := At.new σ1 2 [.bool b.1, y]; rwa [h2] at this
  have L := L1.trans L2
  rw [A1.ld0 (k := 0) rfl]; simp only [asK]
  rw [A2.ld0 (k := 0) rfl]; simp only [asK]
  refine ⟨σ2, ?_, L⟩
  by_cases hk : a.1 = b.1
  · have : (a.1 == b.1) = true := by simp [hk]
    simp only [this, cond_true]
    rw [A1.ld0 (k := 1) rfl]; simp only [asK]
    rw [A2.ld0 (k := 1) rfl]; simp only [asK]
    rw [sameInts_eq (hx.mono L) (hy.mono L) hl]
    simp only [Option.bind_some]
    congr 2
    obtain ⟨a1, a2⟩ := a; obtain ⟨b1, b2⟩ := b
    simp at hk; subst hk
    simp
  · have : (a.1 == b.1) = false := by simpa using hk
    simp only [this, cond_false, Option.bind_some]
    have : a ≠ b := fun e => hk (by rw [e])
    simp [this]

theorem sameBlocks_eq {σ : Heap} {xs ys : List (Bool × List Int)} {x y : AVal} (hx : SlV vB σ xs x) (hy : SlV vB σ ys y) (hb : xs.length ≤ 1000000) (hs : ∀ a ∈ xs, a.2.length ≤ 1000000) :
    ∃ τ, S.skolemref_SameBlocks x y σ = some (decide (xs = ys), τ) ∧ Hle σ τ := by
  unfold S.skolemref_SameBlocks
  rw [hx.len, hy.len]
  by_cases hl : xs.length = ys.length
  · have hc : ((xs.length : Int) != (ys.length : Int)) = false := by simp [hl]
    rw [hc]
    simp only [cond_false]
    obtain ⟨r, τ, e1, L, e2⟩ := loopW_inv (f := S.skolemref_SameBlocks.b0 x y) (x := (0 : Int)) (σ := σ) xs.length (fun i z τ => z = (i : Int) ∧ Hle σ τ ∧ ∀ j, j < i → xs[j]? = ys[j]?) (fun r τ => Hle σ τ ∧ ((r = .inl () ∧ xs = ys) ∨ (r = .inr false ∧ xs ≠ ys)))
      (fun i z τ hi hI => by
        obtain ⟨rfl, L, hI⟩ := hI
        obtain ⟨a, ha⟩ : ∃ a, xs[i]? = some a := ⟨_, List.getElem?_eq_getElem hi⟩
        obtain ⟨b, hb⟩ : ∃ b, ys[i]? = some b := ⟨_, List.getElem?_eq_getElem (by omega)⟩
        obtain ⟨p, us, c2, c3, c1⟩ := hx.ix ha
        obtain ⟨q, ws, d2, d3, d1⟩ := hy.ix hb
        have hd : decide ((i : Int) < (xs.length : Int)) = true := by simp; omega
        have w2 : IntKind.i64.wrap ((i : Int) + 1) = ((i + 1 : Nat) : Int) := by rw [wrapS] <;> omega
        obtain ⟨τ', s1, s2⟩ := sameBlock_eq (vB.mono L c3) (vB.mono L d3) (hs a (List.mem_of_getElem? ha))
        have key : S.skolemref_SameBlocks.b0 x y (i : Int) τ = cond (!(decide (a = b))) (some (.inr (.inr false), τ')) (some (.inl ((i + 1 : Nat) : Int), τ')) := by
          unfold S.skolemref_SameBlocks.b0
          rw [hx.len, hd]
          simp only [cond_true]
          rw [show ixA τ x 2 = ixA τ x vB.sz from rfl, show ixA τ y 2 = ixA τ y vB.sz from rfl, c1 L, (c2.mono L).ldG (n := 2) (vB.len c3).symm, d1 L, (d2.mono L).ldG (n := 2) (vB.len d3).symm, s1, w2]
          rfl
        rw [key]
        by_cases hab : a = b
        · subst hab
          refine .inl ⟨_, τ', by simp, rfl, L.trans s2, fun j hj => ?_⟩
          rcases Nat.lt_succ_iff_lt_or_eq.1 hj with hj | rfl
          · exact hI j hj
          · rw [ha, hb]
        · refine .inr ⟨.inr false, τ', by simp [hab], L.trans s2, .inr ⟨rfl, fun e => ?_⟩⟩
          subst e; rw [ha] at hb; cases hb; exact hab rfl)
      (fun z τ hI => by
        obtain ⟨rfl, L, hI⟩ := hI
        refine ⟨.inl (), τ, ?_, L, .inl ⟨rfl, ?_⟩⟩
        · unfold S.skolemref_SameBlocks.b0
          have hd : decide ((xs.length : Int) < (xs.length : Int)) = false := by simp
          rw [hx.len, hd]; rfl
        · apply List.ext_getElem? fun j => ?_
          by_cases hj : j < xs.length
          · exact hI j hj
          · rw [List.getElem?_eq_none (by omega), List.getElem?_eq_none (by omega)]) ⟨rfl, Hle.refl _, fun j hj => by omega⟩
    rw [e1]
    simp only [Option.bind_some]
    rcases e2 with ⟨rfl, e⟩ | ⟨rfl, e⟩
    · exact ⟨τ, by simp [e], L⟩
    · exact ⟨τ, by simp [e], L⟩
  · have hc : ((xs.length : Int) != (ys.length : Int)) = true := by simp; omega
    rw [hc]
    have : xs ≠ ys := fun e => hl (by rw [e])
    exact ⟨σ, by simp [this], Hle.refl _⟩
end Go.Proofs.YtgneblbblihaoaaDoor.A
