/- PrefixMerges, as plain law. -/
import Derived.Test.YtgneblbblihaoaaDoorJ4
set_option linter.all false
namespace Go.Proofs.YtgneblbblihaoaaDoor.A
open Go

def vars (bs : List (Bool × List Int)) : List Int := (bs.map (·.2)).flatten
theorem vars_append (a b : List (Bool × List Int)) : vars (a ++ b) = vars a ++ vars b := by simp [vars]
theorem mergeB_vars (out : List (Bool × List Int)) (b) : vars (mergeB out b) = vars out ++ b.2 := by
  unfold mergeB; split
  · rename_i h; simp [h]
  · split
    · rename_i a h
      split
      · obtain ⟨l, rfl⟩ := List.getLast?_eq_some_iff.1 h
        have : (l ++ [a]).set ((l ++ [a]).length - 1) (a.1, a.2 ++ b.2) = l ++ [(a.1, a.2 ++ b.2)] := by
          rw [List.length_append, List.length_singleton, Nat.add_sub_cancel, List.set_append_right _ _ (Nat.le_refl _)]; simp
        rw [this, vars_append, vars_append]; simp [vars]
      · rw [vars_append]; simp [vars]
    · rw [vars_append]; simp [vars]
theorem foldl_vars : ∀ (bs out : List (Bool × List Int)), vars (bs.foldl mergeB out) = vars out ++ vars bs
  | [], out => by simp [vars]
  | b :: bs, out => by rw [List.foldl_cons, foldl_vars bs, mergeB_vars]; simp [vars]
theorem merge_vars (bs : List (Bool × List Int)) : vars (merge bs) = vars bs := by
  unfold merge; rw [foldl_vars]; simp [vars]

/-- No block is empty, neighbours are of unlike kinds. -/
structure Good (l : List (Bool × List Int)) : Prop where
  ne : ∀ b ∈ l, b.2 ≠ []
  alt : ∀ i a b, l[i]? = some a → l[i + 1]? = some b → a.1 ≠ b.1

theorem mergeB_good {out : List (Bool × List Int)} (h : Good out) (b) : Good (mergeB out b) := by
  have push : b.2 ≠ [] → (∀ a, out.getLast? = some a → a.1 ≠ b.1) → Good (out ++ [b]) := fun hb hl => by
    refine ⟨fun c hc => ?_, fun i a c ha hc => ?_⟩
    · rcases List.mem_append.1 hc with hc | hc
      · exact h.ne c hc
      · simp at hc; subst hc; exact hb
    · have hi := (List.getElem?_eq_some_iff.1 hc).1
      simp at hi
      rw [List.getElem?_append_left (by omega)] at ha
      by_cases h2 : i + 1 < out.length
      · rw [List.getElem?_append_left h2] at hc; exact h.alt i a c ha hc
      · have e : i + 1 = out.length := by omega
        rw [List.getElem?_append_right (by omega), e, Nat.sub_self] at hc
        simp at hc; subst hc
        refine hl a ?_
        rw [List.getLast?_eq_getElem?, show out.length - 1 = i by omega]; exact ha
  unfold mergeB; split
  · exact h
  · rename_i hb
    split
    · rename_i a ha
      split
      · rename_i hk
        have key : ∀ (i : Nat) (c : Bool × List Int), (out.set (out.length - 1) (a.1, a.2 ++ b.2))[i]? = some c → ∃ d : Bool × List Int, out[i]? = some d ∧ d.1 = c.1 ∧ (c.2 = [] → d.2 = []) := by
          intro i c hc
          rw [List.getElem?_set] at hc
          split at hc
          · rename_i e
            split at hc
            · cases hc
              rw [List.getLast?_eq_getElem?, e] at ha
              exact ⟨a, ha, rfl, fun h => (List.append_eq_nil_iff.1 h).1⟩
            · cases hc
          · exact ⟨c, hc, rfl, fun h => h⟩
        refine ⟨fun c hc => ?_, fun i c d hc hd => ?_⟩
        · obtain ⟨i, hi, e⟩ := List.getElem_of_mem hc
          obtain ⟨d, h1, _, h3⟩ := key i c (by rw [List.getElem?_eq_getElem hi, e])
          exact fun e => h.ne d (List.mem_of_getElem? h1) (h3 e)
        · obtain ⟨c', h1, h2, _⟩ := key _ _ hc
          obtain ⟨d', h3, h4, _⟩ := key _ _ hd
          rw [← h2, ← h4]; exact h.alt i c' d' h1 h3
      · rename_i hk
        exact push hb fun a' ha' => by rw [ha] at ha'; cases ha'; exact hk
    · rename_i hn
      exact push hb fun a' ha' => by rw [hn] at ha'; cases ha'
theorem foldl_good : ∀ (bs : List (Bool × List Int)) {out : List (Bool × List Int)}, Good out → Good (bs.foldl mergeB out)
  | [], _, h => h
  | b :: bs, _, h => foldl_good bs (mergeB_good h b)
theorem merge_good (bs : List (Bool × List Int)) : Good (merge bs) := foldl_good bs ⟨fun _ h => (by cases h), fun i a b h => by simp at h⟩
theorem foldl_same : ∀ (bs out : List (Bool × List Int)), Good (out ++ bs) → bs.foldl mergeB out = out ++ bs
  | [], out, _ => by simp
  | b :: bs, out, h => by
    have h1 : mergeB out b = out ++ [b] := by
      unfold mergeB
      rw [if_neg (h.ne b (by simp))]
      split
      · rename_i a ha
        rw [List.getLast?_eq_getElem?] at ha
        have hlt := (List.getElem?_eq_some_iff.1 ha).1
        rw [if_neg]
        refine h.alt (out.length - 1) a b (by rw [List.getElem?_append_left hlt]; exact ha) ?_
        rw [show out.length - 1 + 1 = out.length by omega, List.getElem?_append_right (Nat.le_refl _), Nat.sub_self]; rfl
      · rfl
    rw [List.foldl_cons, h1, foldl_same bs (out ++ [b]) (by rw [List.append_assoc]; exact h), List.append_assoc]; rfl
theorem merge_same {bs : List (Bool × List Int)} (h : Good bs) : merge bs = bs := foldl_same bs [] h

theorem vars_take {bs : List (Bool × List Int)} {i : Nat} {b : Bool × List Int} (h : bs[i]? = some b) : vars (bs.take (i + 1)) = vars (bs.take i) ++ b.2 := by
  rw [List.take_add_one, h, vars_append]; simp [vars]
theorem vars_take_le (bs : List (Bool × List Int)) (i : Nat) : (vars (bs.take i)).length ≤ (vars bs).length := by
  conv => rhs; rw [← List.take_append_drop i bs]
  rw [vars_append, List.length_append]; omega
theorem total_vars (bs : List (Bool × List Int)) : total bs = (vars bs).length := by simp [total, vars, List.length_flatten]; congr 1

theorem merges_plain {σ : Heap} {bs : List (Bool × List Int)} {x : AVal} (hx : SlV vB σ bs x) : ∃ τ, S.skolemlaw6_PrefixMerges x σ = some (true, τ) := by
  unfold S.skolemlaw6_PrefixMerges
  obtain ⟨σ1, e1, L1⟩ := first6_eq σ
  rw [e1]
  simp only [Option.bind_some, Bool.not_true, cond_false]
  rw [hx.len]
  by_cases hn : bs.length > 8
  · have : decide ((bs.length : Int) > 8) = true := decide_eq_true (by omega)
    simp only [this, cond_true]
    exact ⟨σ1, rfl⟩
  · have : decide ((bs.length : Int) > 8) = false := decide_eq_false (by omega)
    simp only [this, cond_false]
    have hx1 := hx.mono L1
    obtain ⟨r, τ, e2, L2, hr⟩ := loopW_inv (f := S.skolemlaw6_PrefixMerges.b0 x true) (x := (.nils, (0 : Int))) (σ := σ1) bs.length
      (fun i y τ => y.2 = (i : Int) ∧ Hle σ1 τ ∧ Acc .int σ1.next τ (vars (bs.take i)) y.1 ∧ (∀ j b, j < i → bs[j]? = some b → b.2.length ≤ 30))
      (fun r τ => Hle σ1 τ ∧ (r = .inr true ∨ ∃ y, r = .inl y ∧ Acc .int σ1.next τ (vars bs) y ∧ ∀ b ∈ bs, b.2.length ≤ 30))
      (fun i y τ hi hI => by
        obtain ⟨h1, L, hA, hsm⟩ := hI
        obtain ⟨y, j⟩ := y
        simp only at h1; subst h1
        obtain ⟨b, hb⟩ : ∃ b, bs[i]? = some b := ⟨_, List.getElem?_eq_getElem hi⟩
        obtain ⟨p, us, c2, c3, c1⟩ := hx1.ix hb
        obtain ⟨v, rfl, hv⟩ := vB_rel c3
        obtain ⟨q, f1, f2⟩ := (c2.mono L).fld 1 (by simp)
        have f2 : At τ q [v] := f2
        have hd : decide ((i : Int) < (bs.length : Int)) = true := decide_eq_true (by omega)
        have w2 : IntKind.i64.wrap ((i : Int) + 1) = ((i + 1 : Nat) : Int) := by rw [wrapS] <;> omega
        unfold S.skolemlaw6_PrefixMerges.b0
        rw [hx.len]
        simp only [hd, cond_true, w2]
        rw [show ixA τ x 2 = ixA τ x vB.sz from rfl, c1 L, f1, f2.ld]
        simp only [asK]
        rw [hv.len]
        by_cases hlong : b.2.length > 30
        · have : decide ((b.2.length : Int) > 30) = true := decide_eq_true (by omega)
          simp only [this, cond_true]
          exact .inr ⟨_, τ, rfl, L, .inl rfl⟩
        · have : decide ((b.2.length : Int) > 30) = false := decide_eq_false (by omega)
          simp only [this, cond_false]
          rw [c1 L, f1, f2.ld]
          simp only [asK]
          have hle : (vars (bs.take i)).length ≤ i * 30 := by
            rw [← total_vars]
            clear hA
            induction i with
            | zero => simp [total]
            | succ i ih =>
              obtain ⟨c, hc⟩ : ∃ c, bs[i]? = some c := ⟨_, List.getElem?_eq_getElem (by omega)⟩
              have h3 := hsm i c (by omega) hc
              have h4 : total (bs.take i) ≤ i * 30 := by
                clear ih
                have : ∀ k, k ≤ i → total (bs.take k) ≤ k * 30 := by
                  intro k
                  induction k with
                  | zero => intro _; simp [total]
                  | succ k ih =>
                    intro hk
                    obtain ⟨d, hd⟩ : ∃ d, bs[k]? = some d := ⟨_, List.getElem?_eq_getElem (by omega)⟩
                    have h5 := hsm k d (by omega) hd
                    have h6 := ih (by omega)
                    rw [List.take_add_one, hd, total_append]; simp [total] at h6 ⊢; omega
                exact this i (Nat.le_refl _)
              rw [List.take_add_one, hc, total_append]; simp [total] at h4 ⊢; omega
          obtain ⟨y', τ', a1, a2, a3, _⟩ := hA.app (bytes := 8) L (hv.mono (hA.out_le L)) (by omega) (by omega)
          have a1 : ∀ {Rt : Type} (K : AVal → Heap → Option Rt), appS τ 1 8 y v K = K y' τ' := a1
          rw [a1]
          refine .inl ⟨_, τ', rfl, rfl, a2, by rw [vars_take hb]; exact a3, fun j c hj hc => ?_⟩
          rcases Nat.lt_succ_iff_lt_or_eq.1 hj with hj | rfl
          · exact hsm j c hj hc
          · rw [hb] at hc; cases hc; omega)
      (fun y τ hI => by
        obtain ⟨h1, L, hA, hsm⟩ := hI
        obtain ⟨y, j⟩ := y
        simp only at h1; subst h1
        refine ⟨.inl y, τ, ?_, L, .inr ⟨y, rfl, by rw [List.take_length] at hA; exact hA, fun b hb => ?_⟩⟩
        · unfold S.skolemlaw6_PrefixMerges.b0
          have hd : decide ((bs.length : Int) < (bs.length : Int)) = false := by simp
          rw [hx.len]; simp only [hd, cond_false]
        · obtain ⟨k, hk, e⟩ := List.getElem_of_mem hb
          exact hsm k b hk (by rw [List.getElem?_eq_getElem hk, e])) ⟨rfl, Hle.refl _, by simpa [vars] using Acc.nil .int σ1.next σ1, fun j b hj => by omega⟩
    rw [e2]
    simp only [Option.bind_some]
    rcases hr with rfl | ⟨y, rfl, hA, hsm⟩
    · exact ⟨τ, rfl⟩
    · simp only []
      have hsmall : total bs ≤ 240 := by
        have : ∀ (l : List (Bool × List Int)), (∀ b ∈ l, b.2.length ≤ 30) → total l ≤ l.length * 30 := by
          intro l
          induction l with
          | nil => intro _; simp [total]
          | cons b l ih => intro h; have := ih fun c hc => h c (List.mem_cons_of_mem _ hc); have := h b List.mem_cons_self; simp [total] at *; omega
        have := this bs hsm; omega
      obtain ⟨m, τ1, e3, L3, hm⟩ := merge_eq (hx1.mono L2) (by omega) (by omega)
      rw [e3]
      simp only [Option.bind_some]
      obtain ⟨g1, g2⟩ := foldl_merge bs []
      have hml : (merge bs).length ≤ 8 := by have : (merge bs).length ≤ 0 + bs.length := g2; omega
      have hmt : total (merge bs) ≤ 240 := by have : total (merge bs) = total [] + total bs := g1; simp [total] at this; simp [total] at hsmall ⊢; omega
      have hG := merge_good bs
      obtain ⟨r, τ2, e4, L4, y2, rfl, hA2⟩ := loopW_inv (f := S.skolemlaw6_PrefixMerges.b1 true y m) (x := (.nils, (0 : Int))) (σ := τ1) (merge bs).length
        (fun i z τ => z.2 = (i : Int) ∧ Hle τ1 τ ∧ Acc .int τ1.next τ (vars ((merge bs).take i)) z.1)
        (fun r τ => Hle τ1 τ ∧ ∃ z, r = .inl z ∧ Acc .int τ1.next τ (vars (merge bs)) z)
        (fun i z τ hi hI => by
          obtain ⟨h1, L, hB⟩ := hI
          obtain ⟨z, j⟩ := z
          simp only at h1; subst h1
          obtain ⟨b, hb⟩ : ∃ b, (merge bs)[i]? = some b := ⟨_, List.getElem?_eq_getElem hi⟩
          obtain ⟨p, us, c2, c3, c1⟩ := hm.sl.ix hb
          obtain ⟨v, rfl, hv⟩ := vB_rel c3
          obtain ⟨q, f1, f2⟩ := (c2.mono L).fld 1 (by simp)
          have f2 : At τ q [v] := f2
          have hd : decide ((i : Int) < ((merge bs).length : Int)) = true := decide_eq_true (by omega)
          have w2 : IntKind.i64.wrap ((i : Int) + 1) = ((i + 1 : Nat) : Int) := by rw [wrapS] <;> omega
          have hb0 : ((b.2.length : Int) == 0) = false := by
            have := hG.ne b (List.mem_of_getElem? hb)
            have : b.2.length ≠ 0 := fun e => this (List.eq_nil_of_length_eq_zero e)
            simpa using this
          have hcond : ∀ (R : Type) (K : Bool → Option R), (cond (decide ((i : Int) > 0)) (ixA τ m 2 (i : Int) fun a31 => fld a31 0 fun a32 => ld τ a32 (.B) fun b33 => ixA τ m 2 (IntKind.i64.wrap ((i : Int) - 1)) fun a34 => fld a34 0 fun a35 => ld τ a35 (.B) fun b36 => some (b33 == b36)) (some false)).bind K = K false := by
            intro R K
            by_cases h0 : i = 0
            · subst h0; rfl
            · have : decide ((i : Int) > 0) = true := decide_eq_true (by omega)
              simp only [this, cond_true]
              obtain ⟨d, hd⟩ : ∃ d, (merge bs)[i - 1]? = some d := ⟨_, List.getElem?_eq_getElem (by omega)⟩
              obtain ⟨p', us', d2, d3, d1⟩ := hm.sl.ix hd
              obtain ⟨v', rfl, _⟩ := vB_rel d3
              obtain ⟨q0, f3, f4⟩ := (c2.mono L).fld 0 (by simp)
              obtain ⟨q1, f5, f6⟩ := (d2.mono L).fld 0 (by simp)
              have f4 : At τ q0 (.bool b.1 :: [v]) := f4
              have f6 : At τ q1 (.bool d.1 :: [v']) := f6
              have w3 : IntKind.i64.wrap ((i : Int) - 1) = ((i - 1 : Nat) : Int) := by rw [wrapS] <;> omega
              rw [show ixA τ m 2 = ixA τ m vB.sz from rfl, c1 L, f3, f4.ld]
              simp only [asK]
              rw [w3, d1 L, f5, f6.ld]
              simp only [asK]
              have := hG.alt (i - 1) d b hd (by rw [show i - 1 + 1 = i by omega]; exact hb)
              have : (b.1 == d.1) = false := by simpa using fun e => this e.symm
              rw [this]; rfl
          refine .inl ?_
          unfold S.skolemlaw6_PrefixMerges.b1
          rw [hm.len]
          simp only [hd, cond_true, w2]
          rw [show ixA τ m 2 (i : Int) = ixA τ m vB.sz (i : Int) from rfl, c1 L, f1, f2.ld]
          simp only [asK]
          rw [hv.len]
          simp only [hb0, cond_false]
          rw [show ixA τ m vB.sz = ixA τ m 2 from rfl, hcond]
          simp only [cond_false]
          rw [show ixA τ m 2 = ixA τ m vB.sz from rfl, c1 L, f1, f2.ld]
          simp only [asK]
          have h5 := vars_take_le (merge bs) i
          have h6 := total_mem (List.mem_of_getElem? hb)
          rw [← total_vars, ← total_vars] at h5
          obtain ⟨z', τ', a1, a2, a3, _⟩ := hB.app (bytes := 8) L (hv.mono (hB.out_le L)) (by rw [← total_vars]; omega) (by rw [← total_vars]; omega)
          have a1 : ∀ {Rt : Type} (K : AVal → Heap → Option Rt), appS τ 1 8 z v K = K z' τ' := a1
          rw [a1]
          exact ⟨_, τ', rfl, rfl, a2, by rw [vars_take hb]; exact a3⟩)
        (fun z τ hI => by
          obtain ⟨h1, L, hB⟩ := hI
          obtain ⟨z, j⟩ := z
          simp only at h1; subst h1
          refine ⟨.inl z, τ, ?_, L, z, rfl, by rw [List.take_length] at hB; exact hB⟩
          unfold S.skolemlaw6_PrefixMerges.b1
          have hd : decide (((merge bs).length : Int) < ((merge bs).length : Int)) = false := by simp
          rw [hm.len]; simp only [hd, cond_false]) ⟨rfl, Hle.refl _, by simpa [vars] using Acc.nil .int τ1.next τ1⟩
      rw [e4]
      simp only [Option.bind_some, cond_true]
      rw [sameInts_eq hA2.sl ((hA.mono L3).mono L4).sl (by rw [← total_vars]; omega), merge_vars]
      simp only [Option.bind_some, decide_true, cond_true]
      obtain ⟨m2, τ3, e5, L5, hm2⟩ := merge_eq (hm.mono L4).sl (by omega) (by omega)
      rw [e5]
      simp only [Option.bind_some]
      rw [merge_same hG] at hm2
      obtain ⟨τ4, e6, _⟩ := sameBlocks_eq hm2.sl ((hm.mono L4).mono L5).sl (by omega) (fun a ha => by have := total_mem ha; omega)
      rw [e6]
      simp only [Option.bind_some, decide_true]
      exact ⟨τ4, rfl⟩
end Go.Proofs.YtgneblbblihaoaaDoor.A
