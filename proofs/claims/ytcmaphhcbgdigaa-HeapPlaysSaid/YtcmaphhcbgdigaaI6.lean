/- The reference's heap: Pop, Halve, Len; what it has to do with the program's. -/
import Derived.Test.YtcmaphhcbgdigaaI5
set_option linter.all false
namespace Go.Proofs.Ytcmaphhcbgdigaa.A
open Go

theorem among_succ (seen : Nat → Bool) (sc : Nat → Int) {k : Nat} (hk : 0 < k) (b : Int) : among seen sc (k + 1) b = among seen sc k b ++ if seen k = false ∧ sc k = b then [k] else [] := by
  unfold among
  rw [List.range_succ, List.filter_append]
  congr 1
  by_cases h : seen k = false ∧ sc k = b
  · rw [if_pos h]; simp [h, hk]
  · rw [if_neg h]
    have : decide (0 < k ∧ seen k = false ∧ sc k = b) = false := decide_eq_false fun e => h e.2
    simp only [List.filter_cons, this, List.filter_nil, Bool.false_eq_true, if_false]
theorem among_none {seen : Nat → Bool} {sc : Nat → Int} {k : Nat} {b c : Int} (h : Best (fun u => 0 < u ∧ seen u = false) sc k b) (hc : b < c) : among seen sc k c = [] := by
  unfold among
  rw [List.filter_eq_nil_iff]
  intro u hu
  rw [List.mem_range] at hu
  simp only [decide_eq_true_eq]
  rintro ⟨a, d, e⟩
  have := h.le u hu ⟨a, d⟩
  omega
theorem Best.skip {M : Nat → Prop} {sc : Nat → Int} {k : Nat} {b : Int} (h : Best M sc k b) (hk : M k → sc k ≤ b) : Best M sc (k + 1) b :=
  ⟨fun u hu hM => by
    by_cases e : u = k
    · subst e; exact hk hM
    · exact h.le u (by omega) hM, h.at'.imp id fun ⟨u, a, c⟩ => ⟨u, by omega, c⟩⟩
theorem Best.take {M : Nat → Prop} {sc : Nat → Int} {k : Nat} {b : Int} (h : Best M sc k b) (hM : M k) (hk : b ≤ sc k) : Best M sc (k + 1) (sc k) :=
  ⟨fun u hu hu2 => by
    by_cases e : u = k
    · subst e; exact Int.le_refl _
    · have := h.le u (by omega) hu2; omega, .inr ⟨k, by omega, hM, rfl⟩⟩

theorem RAt.keep {σ σ' : Heap} {lx rs ri N : Nat} {sc : Nat → Int} {inn : Nat → Bool} (A : RAt σ lx rs ri N sc inn) (hn : σ.next ≤ σ'.next) (hg : ∀ l, footR lx rs ri l → σ'.get l = σ.get l) : RAt σ' lx rs ri N sc inn :=
  ⟨(hg _ (.inl rfl)).trans A.h, (hg _ (.inr (.inl rfl))).trans A.s, (hg _ (.inr (.inr rfl))).trans A.i, A.ne, ⟨by have := A.lt.1; omega, by have := A.lt.2.1; omega, by have := A.lt.2.2; omega⟩⟩

theorem rpop_loop {lx rs ri N B : Nat} {sc : Nat → Int} {inn : Nat → Bool} {tie : Int} (hN : N ≤ 4001) (hsc : ∀ v, v < N → 0 ≤ sc v) (hB1 : lx < B ∧ rs < B ∧ ri < B) : ∀ (n k : Nat) (σ : Heap) (lv : AVal) (b : Int), k + n = N → 0 < k → RAt σ lx rs ri N sc inn → B ≤ σ.next →
    Best (fun u => 0 < u ∧ (!inn u) = false) sc k b → IsL B σ lv ((among (fun u => !inn u) sc k b).map fun u : Nat => (u : Int)) →
    ∃ σ' lv' b', loopW (S.skolemref8_Heap_Pop.b0 (.ptr lx 0) tie) (b, lv, (k : Int)) σ = some (lv', σ') ∧ σ.next ≤ σ'.next ∧ (∀ l, l < B → σ'.get l = σ.get l) ∧
      IsL B σ' lv' ((among (fun u => !inn u) sc N b').map fun u : Nat => (u : Int)) ∧ Best (fun u => 0 < u ∧ (!inn u) = false) sc N b'
  | 0, k, σ, lv, b, hn, hk, A, hB, hbest, hl => by
    have : k = N := by omega
    subst this
    refine ⟨σ, lv, b, loopW_stop ?_, Nat.le_refl _, fun _ _ => rfl, hl, hbest⟩
    unfold S.skolemref8_Heap_Pop.b0
    simp only [nilck, fld, A.l0, lenV]
    rw [decide_eq_false (by omega), cond_false]
  | n + 1, k, σ, lv, b, hn, hk, A, hB, hbest, hl => by
    have hkN : k < N := by omega
    have wk1 : IntKind.i64.wrap ((k : Int) + 1) = ((k + 1 : Nat) : Int) := by rw [wrap_small (by omega) (by omega)]; omega
    have hlen := among_len (fun u => !inn u) sc k b
    have round : ∃ lv' σ' b', S.skolemref8_Heap_Pop.b0 (.ptr lx 0) tie (b, lv, (k : Int)) σ = some (.inl (b', lv', ((k + 1 : Nat) : Int)), σ') ∧ σ.next ≤ σ'.next ∧ (∀ l, l < B → σ'.get l = σ.get l) ∧
        Best (fun u => 0 < u ∧ (!inn u) = false) sc (k + 1) b' ∧ IsL B σ' lv' ((among (fun u => !inn u) sc (k + 1) b').map fun u : Nat => (u : Int)) := by
      unfold S.skolemref8_Heap_Pop.b0
      simp only [nilck, fld, A.l0, A.l1, lenV, wk1]
      rw [decide_eq_true (by omega), cond_true, ix_one A.i hkN, ld_tabB A.i hkN]
      cases hin : inn k with
      | false =>
        simp only [Bool.not_false, cond_true, Option.bind_some]
        refine ⟨lv, σ, b, rfl, Nat.le_refl _, fun _ _ => rfl, hbest.skip fun h => by simp [hin] at h, ?_⟩
        rw [among_succ _ _ hk, if_neg (by simp [hin]), List.append_nil]; exact hl
      | true =>
        simp only [Bool.not_true, cond_false]
        rw [ix_one A.s hkN, ld_arr A.s hkN]
        simp only [Option.bind_some]
        by_cases hlt : sc k < b
        · rw [decide_eq_true hlt, cond_true]
          refine ⟨lv, σ, b, rfl, Nat.le_refl _, fun _ _ => rfl, hbest.skip fun _ => by omega, ?_⟩
          rw [among_succ _ _ hk, if_neg (fun e => by omega), List.append_nil]; exact hl
        · rw [decide_eq_false hlt, cond_false, ix_one A.s hkN, ld_arr A.s hkN]
          by_cases hgt : sc k > b
          · rw [decide_eq_true hgt, cond_true, ix_one A.s hkN, ld_arr A.s hkN]
            simp only [Option.bind_some]
            obtain ⟨v', σ', e1, e2, e3, e4⟩ := (show IsL B σ .nils [] from .inl ⟨rfl, rfl⟩).push (k : Int) (by simp) hB
            refine ⟨v', σ', sc k, by rw [e1]; rfl, e3, e4, hbest.take ⟨hk, by simp [hin]⟩ (by omega), ?_⟩
            rw [among_succ _ _ hk, if_pos ⟨by simp [hin], rfl⟩, among_none hbest hgt]; exact e2
          · rw [decide_eq_false hgt, cond_false]
            simp only [Option.bind_some]
            have he : sc k = b := by omega
            obtain ⟨v', σ', e1, e2, e3, e4⟩ := hl.push (k : Int) (by rw [List.length_map]; omega) hB
            refine ⟨v', σ', sc k, by rw [e1, he]; rfl, e3, e4, hbest.take ⟨hk, by simp [hin]⟩ (by omega), ?_⟩
            rw [among_succ _ _ hk, if_pos ⟨by simp [hin], rfl⟩, he, List.map_append]; exact e2
    obtain ⟨lv1, σ1, b1, e1, n1, k1, best1, l1⟩ := round
    obtain ⟨σ2, lv2, b2, e2, n2, k2, l2, best2⟩ := rpop_loop (tie := tie) hN hsc hB1 n (k + 1) σ1 lv1 b1 (by omega) (by omega) (A.keep n1 fun l hl => k1 l (by
      rcases hl with rfl | rfl | rfl
      · exact hB1.1
      · exact hB1.2.1
      · exact hB1.2.2)) (by omega) best1 l1
    exact ⟨σ2, lv2, b2, loopW_next e1 e2, by omega, fun l hl => (k2 l hl).trans (k1 l hl), l2, best2⟩

/-- Where a tie goes. -/
def tieAt (tie : Int) (n : Nat) : Nat := (Int.tmod (Int.tmod tie n + n) n).toNat
theorem tieAt_spec {tie : Int} {n : Nat} (h : 0 < n) (hn : n < 1000000) : tieAt tie n < n ∧ Int.tmod (IntKind.i64.wrap (Int.tmod tie n + n)) n = (tieAt tie n : Int) := by
  have r1 : -(n : Int) < Int.tmod tie n ∧ Int.tmod tie n < n := ⟨by have := Int.tmod_lt_of_pos (-tie) (show (0 : Int) < n by omega); rw [Int.neg_tmod] at this; omega, Int.tmod_lt_of_pos _ (by omega)⟩
  have r2 : 0 ≤ Int.tmod (Int.tmod tie n + n) n ∧ Int.tmod (Int.tmod tie n + n) n < n := ⟨Int.tmod_nonneg _ (by omega), Int.tmod_lt_of_pos _ (by omega)⟩
  rw [wrap_small (by omega) (by omega)]
  unfold tieAt
  generalize Int.tmod (Int.tmod tie n + n) n = q at *
  omega

section
variable {σ : Heap} {lx : Nat} {G : Nat → Prop} {N : Nat} {sc : Nat → Int} {inn : Nat → Bool}

theorem rpop_eq (H : RHp σ lx G N sc inn) (tie : Int) :
    ∃ σ' b, Best (fun u => 0 < u ∧ (!inn u) = false) sc N b ∧ Step σ σ' G G ∧
      ((among (fun u => !inn u) sc N b = [] ∧ S.skolemref8_Heap_Pop (.ptr lx 0) tie σ = some ((0, false), σ') ∧ RHp σ' lx G N sc inn) ∨
       ∃ v, (among (fun u => !inn u) sc N b)[tieAt tie (among (fun u => !inn u) sc N b).length]? = some v ∧ S.skolemref8_Heap_Pop (.ptr lx 0) tie σ = some (((v : Int), true), σ') ∧ RHp σ' lx G N sc (upd inn v false)) := by
  obtain ⟨rs, ri, A, hG⟩ := H.at'
  obtain ⟨n1, n2, n3⟩ := A.ne
  obtain ⟨σ1, lv, b, e1, x1, k1, hl, hbest⟩ := rpop_loop (tie := tie) (B := σ.next) H.n2 (fun v hv => (H.sc v hv).1) A.lt (N - 1) 1 σ .nils (-1) (by have := H.n1; omega) (by omega) A (Nat.le_refl _)
    ⟨fun u hu hM => absurd hM.1 (by omega), .inl rfl⟩ (.inl ⟨rfl, rfl⟩)
  rw [show ((1 : Nat) : Int) = 1 from rfl] at e1
  have A1 : RAt σ1 lx rs ri N sc inn := A.keep x1 fun l hl => k1 l (by
    rcases hl with rfl | rfl | rfl
    · exact A.lt.1
    · exact A.lt.2.1
    · exact A.lt.2.2)
  have hlen := among_len (fun u => !inn u) sc N b
  have hN2 := H.n2
  have s1 : Step σ σ1 G G := ⟨x1, fun l _ h => k1 l h, fun l h => .inl h⟩
  by_cases hnil : among (fun u => !inn u) sc N b = []
  · refine ⟨σ1, b, hbest, s1, .inl ⟨hnil, ?_, ⟨⟨rs, ri, A1, hG⟩, H.n1, H.n2, H.sc⟩⟩⟩
    unfold S.skolemref8_Heap_Pop
    rw [e1]
    simp only [Option.bind_some]
    rw [hnil] at hl
    rcases hl with ⟨rfl, _⟩ | ⟨lo, _, _, rfl, _⟩
    · rfl
    · rfl
  · have hpos : 0 < (among (fun u => !inn u) sc N b).length := List.length_pos_iff.2 hnil
    obtain ⟨t1, t2⟩ := tieAt_spec (tie := tie) hpos (by omega)
    generalize hL : among (fun u => !inn u) sc N b = L at *
    obtain ⟨lo, c1, c2, rfl, hlo⟩ : ∃ lo, σ.next ≤ lo ∧ lo < σ1.next ∧ lv = .sl lo 0 L.length none ∧ σ1.get lo = some (.cells .rw 1 (cellsI (L.map fun u : Nat => (u : Int)))) := by
      rcases hl with ⟨_, e⟩ | ⟨lo, a, c, e, g⟩
      · have := congrArg List.length e; simp at this; exact absurd this hnil
      · rw [List.length_map] at e; exact ⟨lo, a, c, e, g⟩
    have hv : L[tieAt tie L.length]? = some L[tieAt tie L.length] := List.getElem?_eq_getElem t1
    generalize hve : L[tieAt tie L.length] = v at hv
    have hmem : v ∈ among (fun u => !inn u) sc N b := by rw [hL]; exact List.mem_of_getElem? hv
    unfold among at hmem
    rw [List.mem_filter, List.mem_range, decide_eq_true_iff] at hmem
    refine ⟨σ1.set ri (.cells .rw 1 (tabB N (upd inn v false))), b, hbest, s1.trans ⟨Nat.le_refl _, fun l hl _ => ?_, fun l h => .inl h⟩, .inr ⟨v, by rw [hL]; exact hv, ?_, ⟨⟨rs, ri, ⟨?_, ?_, ?_, A1.ne, A1.lt⟩, hG⟩, H.n1, H.n2, H.sc⟩⟩⟩
    · rw [set_get, if_neg (fun e => hl (by rw [hG]; exact .inr (.inr e)))]
    · unfold S.skolemref8_Heap_Pop
      rw [e1]
      have hz : ((L.length : Int) == 0) = false := by simpa using (show L.length ≠ 0 by omega)
      simp only [Option.bind_some, lenV, hz, cond_false]
      rw [if_neg (by omega), if_neg (by omega), t2, ix_one hlo t1, ld_list hlo (by rw [List.length_map]; exact t1)]
      have : (L.map fun u : Nat => (u : Int))[tieAt tie L.length]'(by rw [List.length_map]; exact t1) = (v : Int) := by rw [List.getElem_map, hve]
      rw [this]
      simp only [nilck, fld, A1.l1]
      rw [ix_one A1.i hmem.1, stC_one A1.i (by simp; omega), tabB_set]
    · rw [set_get, if_neg n2]; exact A1.h
    · rw [set_get, if_neg n3]; exact A1.s
    · rw [set_get, if_pos rfl]

theorem rhalve_loop {lx rs ri N : Nat} {inn : Nat → Bool} (sc0 : Nat → Int) (hN : N ≤ 4001) (hsc : ∀ v, v < N → 0 ≤ sc0 v ∧ sc0 v ≤ most) : ∀ (n i : Nat) (σ : Heap) (sc : Nat → Int), i + n = N → 0 < i → RAt σ lx rs ri N sc inn →
    (∀ v, v < N → sc v = if 0 < v ∧ v < i then Int.tdiv (sc0 v) 2 else sc0 v) →
    ∃ σ' sc', loopW (S.skolemref8_Heap_Halve.b0 (.ptr lx 0)) (i : Int) σ = some ((), σ') ∧ RAt σ' lx rs ri N sc' inn ∧ Step σ σ' (footR lx rs ri) (footR lx rs ri) ∧ ∀ v, v < N → sc' v = if 0 < v then Int.tdiv (sc0 v) 2 else sc0 v
  | 0, i, σ, sc, hn, h0, A, h => by
    refine ⟨σ, sc, loopW_stop ?_, A, Step.refl .., fun v hv => by
      rw [h v hv]; split
      · rw [if_pos (by omega)]
      · rw [if_neg (by omega)]⟩
    unfold S.skolemref8_Heap_Halve.b0
    simp only [nilck, fld, A.l0, lenV]
    rw [decide_eq_false (by omega), cond_false]
  | n + 1, i, σ, sc, hn, h0, A, h => by
    have hi : i < N := by omega
    obtain ⟨n1, n2, n3⟩ := A.ne
    have hs := h i hi
    rw [if_neg (by omega)] at hs
    have hr := hsc i hi
    unfold most at hr
    have ht : 0 ≤ Int.tdiv (sc0 i) 2 ∧ Int.tdiv (sc0 i) 2 ≤ sc0 i := by rw [Int.tdiv_eq_ediv_of_nonneg hr.1]; omega
    have A1 : RAt (σ.set rs (.cells .rw 1 (tabI N (upd sc i (Int.tdiv (sc0 i) 2))))) lx rs ri N (upd sc i (Int.tdiv (sc0 i) 2)) inn :=
      ⟨by rw [set_get, if_neg n1]; exact A.h, by rw [set_get, if_pos rfl], by rw [set_get, if_neg (Ne.symm n3)]; exact A.i, A.ne, A.lt⟩
    obtain ⟨σ2, sc2, e2, A2, s2, r2⟩ := rhalve_loop sc0 hN hsc n (i + 1) _ _ (by omega) (by omega) A1 (fun v hv => by
      unfold upd
      have := h v hv
      split
      · rename_i e; subst e; rw [if_pos (by omega)]
      · rw [this]; split
        · rw [if_pos (by omega)]
        · rw [if_neg (by omega)])
    refine ⟨σ2, sc2, loopW_next ?_ e2, A2, Step.trans (σ1 := σ.set rs (.cells .rw 1 (tabI N (upd sc i (Int.tdiv (sc0 i) 2))))) (F1 := footR lx rs ri) ⟨Nat.le_refl _, fun l hl _ => by rw [set_get, if_neg (fun e => hl (.inr (.inl e)))], fun l h => .inl h⟩ s2, r2⟩
    unfold S.skolemref8_Heap_Halve.b0
    have wi : IntKind.i64.wrap ((i : Int) + 1) = ((i + 1 : Nat) : Int) := by rw [wrap_small (by omega) (by omega)]; omega
    simp only [nilck, fld, A.l0, lenV]
    rw [decide_eq_true (by omega), cond_true, ix_one A.s hi, ld_arr A.s hi, ix_one A.s hi, st_arr A.s hi, hs, wrap_small (n := Int.tdiv (sc0 i) 2) (by omega) (by omega), wi]

theorem rhalve_eq (H : RHp σ lx G N sc inn) :
    ∃ σ' sc', S.skolemref8_Heap_Halve (.ptr lx 0) σ = some ((), σ') ∧ RHp σ' lx G N sc' inn ∧ Step σ σ' G G ∧ ∀ v, v < N → sc' v = if 0 < v then Int.tdiv (sc v) 2 else sc v := by
  obtain ⟨rs, ri, A, rfl⟩ := H.at'
  obtain ⟨σ', sc', e, A', s, r⟩ := rhalve_loop sc H.n2 H.sc (N - 1) 1 σ sc (by have := H.n1; omega) (by omega) A (fun v hv => by rw [if_neg (by omega)])
  rw [show ((1 : Nat) : Int) = 1 from rfl] at e
  refine ⟨σ', sc', ?_, ⟨⟨rs, ri, A', rfl⟩, H.n1, H.n2, fun v hv => ?_⟩, s, r⟩
  · unfold S.skolemref8_Heap_Halve; rw [e]; rfl
  · have := H.sc v hv
    rw [r v hv]; split
    · rw [Int.tdiv_eq_ediv_of_nonneg this.1]; omega
    · exact this

/-- How many are in it. -/
def count (inn : Nat → Bool) (k : Nat) : Nat := ((List.range k).filter fun v => decide (0 < v ∧ inn v = true)).length
theorem count_succ (inn : Nat → Bool) {k : Nat} (hk : 0 < k) : count inn (k + 1) = count inn k + if inn k = true then 1 else 0 := by
  unfold count
  rw [List.range_succ, List.filter_append, List.length_append]
  congr 1
  by_cases h : inn k = true
  · rw [if_pos h]; simp [h, hk]
  · rw [if_neg h]
    have : decide (0 < k ∧ inn k = true) = false := decide_eq_false fun e => h e.2
    simp only [List.filter_cons, this, List.filter_nil, Bool.false_eq_true, if_false, List.length_nil]
theorem count_le (inn : Nat → Bool) (k : Nat) : count inn k ≤ k := Nat.le_trans (List.length_filter_le _ _) (by simp)

theorem rlen_loop {lx rs ri N : Nat} {sc : Nat → Int} {inn : Nat → Bool} {σ : Heap} (hN : N ≤ 4001) (A : RAt σ lx rs ri N sc inn) : ∀ (n k : Nat), k + n = N → 0 < k → loopP (S.skolemref8_Heap_Len.b0 (.ptr lx 0) σ) ((count inn k : Int), (k : Int)) = some (count inn N : Int)
  | 0, k, hn, hk => by
    have : k = N := by omega
    subst this
    refine loopP_stop ?_
    unfold S.skolemref8_Heap_Len.b0
    simp only [nilck, fld, A.l0, lenV]
    rw [decide_eq_false (by omega), cond_false]
  | n + 1, k, hn, hk => by
    have ih := rlen_loop hN A n (k + 1) (by omega) (by omega)
    refine loopP_next ?_ ih
    have hc := count_le inn k
    unfold S.skolemref8_Heap_Len.b0
    have wk : IntKind.i64.wrap ((k : Int) + 1) = ((k + 1 : Nat) : Int) := by rw [wrap_small (by omega) (by omega)]; omega
    have wc : IntKind.i64.wrap ((count inn k : Int) + 1) = ((count inn k + 1 : Nat) : Int) := by rw [wrap_small (by omega) (by omega)]; omega
    simp only [nilck, fld, A.l0, A.l1, lenV, wk, wc]
    rw [decide_eq_true (by omega), cond_true, ix_one A.i (by omega), ld_tabB A.i (by omega), count_succ inn hk]
    cases inn k <;> rfl

theorem rlen_eq (H : RHp σ lx G N sc inn) : S.skolemref8_Heap_Len (.ptr lx 0) σ = some (count inn N : Int) := by
  obtain ⟨rs, ri, A, _⟩ := H.at'
  have := rlen_loop H.n2 A (N - 1) 1 (by have := H.n1; omega) (by omega)
  have h1 : count inn 1 = 0 := by unfold count; rfl
  rw [h1, show ((1 : Nat) : Int) = 1 from rfl, show ((0 : Nat) : Int) = 0 from rfl] at this
  unfold S.skolemref8_Heap_Len
  rw [this]; rfl
end

/-- The two heaps say the same. -/
structure Cor (st : HS) (N : Nat) (sc : Nat → Int) (inn : Nat → Bool) : Prop where
  N : st.N = N
  sc : ∀ v, 0 < v → v < st.N → st.sc v = sc v
  pl : ∀ v, v < st.N → (0 < st.pl v ↔ 0 < v ∧ inn v = true)

theorem Cor.count {st : HS} {N : Nat} {sc : Nat → Int} {inn : Nat → Bool} (c : Cor st N sc inn) (w : st.WF) : count inn N = st.m := by
  have hp : ((List.range st.m).map st.hs).Perm ((List.range N).filter fun v => decide (0 < v ∧ inn v = true)) := by
    rw [List.perm_ext_iff_of_nodup]
    · intro v
      rw [List.mem_map, List.mem_filter, List.mem_range, decide_eq_true_iff]
      constructor
      · rintro ⟨i, hi, rfl⟩
        rw [List.mem_range] at hi
        have := w.hs i hi
        exact ⟨by rw [← c.N]; exact this.2.1, (c.pl _ this.2.1).1 (by omega)⟩
      · rintro ⟨hv, h⟩
        obtain ⟨i, hi, e, _⟩ := w.in (v := v) (by rw [c.N]; exact hv) ((c.pl v (by rw [c.N]; exact hv)).2 h)
        exact ⟨i, List.mem_range.2 hi, e⟩
    · refine nodup_map_on List.nodup_range fun a ha b hb h => ?_
      exact w.inj (List.mem_range.1 ha) (List.mem_range.1 hb) h
    · exact List.Pairwise.filter _ List.nodup_range
  have := hp.length_eq
  simp only [List.length_map, List.length_range] at this
  exact this.symm

theorem Cor.tops {st : HS} {N : Nat} {sc : Nat → Int} {inn : Nat → Bool} {b : Int} (c : Cor st N sc inn) (w : st.WF) (ho : st.HO) (hs : ∀ v, v < N → 0 ≤ sc v) (hb : Best (fun u => 0 < u ∧ (!inn u) = false) sc N b) :
    (st.m = 0 → among (fun u => !inn u) sc N b = []) ∧ (0 < st.m → among (fun u => !inn u) sc N b = tops st) := by
  have hM : ∀ u, u < st.N → (0 < st.pl u ↔ 0 < u ∧ (!inn u) = false) := fun u hu => by rw [c.pl u hu]; simp
  have hN := c.N
  constructor
  · intro hm
    unfold among
    rw [List.filter_eq_nil_iff]
    intro u hu
    rw [List.mem_range] at hu
    simp only [decide_eq_true_eq]
    rintro ⟨h1, h2, _⟩
    obtain ⟨i, hi, _⟩ := w.in (v := u) (by omega) ((hM u (by omega)).2 ⟨h1, h2⟩)
    omega
  · intro hm
    have h0 := w.hs 0 hm
    have hM0 := (hM _ h0.2.1).1 (by omega)
    have hle := hb.le (st.hs 0) (by omega) hM0
    have hnn := hs (st.hs 0) (by omega)
    have hbe : b = st.sc (st.hs 0) := by
      rw [c.sc _ hM0.1 h0.2.1]
      rcases hb.at' with e | ⟨u, hu, hMu, e⟩
      · omega
      · obtain ⟨i, hi, ei, _⟩ := w.in (v := u) (by omega) ((hM u (by omega)).2 hMu)
        have := nah_sc (ho.top i hi)
        rw [ei, c.sc u hMu.1 (by omega), c.sc _ hM0.1 h0.2.1] at this
        omega
    unfold among Ytcmaphhcbgdigaa.A.tops
    rw [hN]
    apply List.filter_congr
    intro u hu
    rw [List.mem_range] at hu
    rw [decide_eq_decide, hM u (by omega)]
    constructor
    · rintro ⟨a, d, e⟩
      exact ⟨⟨a, d⟩, by rw [c.sc u a (by omega), e, hbe]⟩
    · rintro ⟨⟨a, d⟩, e⟩
      exact ⟨a, d, by rw [← c.sc u a (by omega), e, hbe]⟩
end Go.Proofs.Ytcmaphhcbgdigaa.A
