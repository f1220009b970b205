/- HeapOrder: the plain law. -/
import Derived.Test.YtcmaphhcbgdigaaI1
set_option linter.all false
namespace Go.Proofs.Ytcmaphhcbgdigaa.A
open Go

/-- A slice of ints that lies below b, and what it holds. -/
def IsInts (b : Nat) (σ : Heap) (v : AVal) (xs : List Int) : Prop :=
  (v = .nils ∧ xs = []) ∨ ∃ l md more, l < b ∧ v = .sl l 0 xs.length none ∧ σ.get l = some (.cells md 1 (cellsI xs ++ more))
theorem IsInts.keep {b : Nat} {σ σ' : Heap} {v : AVal} {xs : List Int} (h : IsInts b σ v xs) (k : ∀ l, l < b → σ'.get l = σ.get l) : IsInts b σ' v xs := by
  rcases h with h | ⟨l, md, more, a, b, c⟩
  · exact .inl h
  · exact .inr ⟨l, md, more, a, b, (k l a).trans c⟩
theorem IsInts.len {b : Nat} {σ : Heap} {v : AVal} {xs : List Int} (h : IsInts b σ v xs) {Rt : Type} (K : Int → Option Rt) : lenV v K = K xs.length := by
  rcases h with ⟨rfl, rfl⟩ | ⟨l, md, more, a, rfl, c⟩ <;> rfl
theorem IsInts.at {b : Nat} {σ : Heap} {v : AVal} {xs : List Int} (h : IsInts b σ v xs) {i : Nat} (hi : i < xs.length) :
    ∃ l, l < b ∧ v = .sl l 0 xs.length none ∧ ∀ σ' : Heap, σ'.get l = σ.get l → (∀ {Rt : Type} (K : AVal → Option Rt), ixA σ' v 1 (i : Int) K = K (.ptr l i)) ∧ ∀ {Rt : Type} (K : Int → Option Rt), ld σ' (.ptr l i) (.I .i64) K = K xs[i] := by
  rcases h with ⟨rfl, rfl⟩ | ⟨l, md, more, a, rfl, c⟩
  · exact absurd hi (Nat.not_lt_zero _)
  · refine ⟨l, a, rfl, fun σ' hg => ⟨fun K => ix_one (hg.trans c) hi K, fun K => ?_⟩⟩
    simp [ld, Heap.cell, hg, c, asK, List.getElem?_append_left, hi]

def numV (n b : Int) : Int := if Int.tmod n b < 0 then Int.tmod n b + b else Int.tmod n b
theorem numV_eq {n b : Int} (hb : 0 < b) (hb2 : b < 1000000) (σ : Heap) : S.skolemworld_Number n b σ = some (numV n b) ∧ 0 ≤ numV n b ∧ numV n b < b := by
  have h1 : Int.tmod n b < b := Int.tmod_lt_of_pos _ hb
  have h2 : -b < Int.tmod n b := by have := Int.tmod_lt_of_pos (-n) hb; rw [Int.neg_tmod] at this; omega
  unfold S.skolemworld_Number numV
  rw [if_neg (by omega)]
  by_cases h : Int.tmod n b < 0
  · rw [decide_eq_true h, cond_true, if_pos h]
    simp only [Option.bind_some]
    rw [wrap_small (by omega) (by omega)]; exact ⟨rfl, by omega, by omega⟩
  · rw [decide_eq_false h, cond_false, if_neg h]
    exact ⟨rfl, by omega, by omega⟩

/-- The score that HeapOrder gives. -/
def ordS (xs : List Int) (v : Nat) : Int := if 0 < v ∧ v ≤ xs.length then numV (xs.getD (v - 1) 0) 9 else 0
theorem ordS_le (xs : List Int) (v : Nat) : 0 ≤ ordS xs v ∧ ordS xs v ≤ 8 := by
  unfold ordS; split
  · have := (numV_eq (n := xs.getD (v - 1) 0) (b := 9) (by omega) (by omega) ⟨0, fun _ => none⟩).2; omega
  · omega

/-- The first loop: scores are given. -/
theorem order_b0 {lh b0 : Nat} {v w : AVal} {xs : List Int} {ok : Bool} (hN : xs.length ≤ 40) : ∀ (n i : Nat) (σ : Heap) (F : Nat → Prop) (st : HS), i + n = xs.length → IsInts b0 σ v xs → Hp σ lh F st → (∀ l, F l → b0 ≤ l) → b0 ≤ σ.next →
    st.N = xs.length + 1 → st.m = xs.length → (∀ x, x < st.N → (0 < st.pl x ↔ 0 < x)) → (∀ x, x < st.N → st.sc x = if x ≤ i then ordS xs x else 0) →
    ∃ σ' st', loopW (S.skolemlaw14_HeapOrder.b0 v w ok (.ptr lh 0)) (i : Int) σ = some (.inl (), σ') ∧ Hp σ' lh F st' ∧ Step σ σ' F F ∧
      st'.N = xs.length + 1 ∧ st'.m = xs.length ∧ (∀ x, x < st'.N → (0 < st'.pl x ↔ 0 < x)) ∧ ∀ x, x < st'.N → st'.sc x = ordS xs x
  | 0, i, σ, F, st, hn, hv, H, hF, hb, h1, h2, h3, h4 => by
    refine ⟨σ, st, loopW_stop ?_, H, Step.refl .., h1, h2, h3, fun x hx => by rw [h4 x hx, if_pos (by omega)]⟩
    unfold S.skolemlaw14_HeapOrder.b0
    rw [hv.len, decide_eq_false (by omega), cond_false]
  | n + 1, i, σ, F, st, hn, hv, H, hF, hb, h1, h2, h3, h4 => by
    have hi : i < xs.length := by omega
    obtain ⟨l, hl, rfl, hr⟩ := hv.at hi
    obtain ⟨r1, r2⟩ := hr σ rfl
    obtain ⟨q1, q2, q3⟩ := numV_eq (n := xs[i]) (b := 9) (by omega) (by omega) σ
    have hs0 : st.sc (i + 1) = 0 := by rw [h4 _ (by omega), if_neg (by omega)]
    obtain ⟨σ1, st1, e1, H1, s1, b1⟩ := bump_yes H (v := i + 1) (by omega) (by omega) (numV xs[i] 9)
    have hsc : bumped (st.sc (i + 1)) (numV xs[i] 9) = numV xs[i] 9 := by rw [hs0]; unfold bumped; rw [Int.zero_add, clampBy_id (by omega) (by omega), clampSc_id (by omega) (by omega)]
    rw [hsc] at e1 b1
    have ho : ordS xs (i + 1) = numV xs[i] 9 := by unfold ordS; rw [if_pos ⟨by omega, by omega⟩]; simp [hi]
    have hg1 : σ1.get l = σ.get l := s1.get l (fun e => by have := hF l e; omega) (by omega)
    obtain ⟨r3, r4⟩ := hr σ1 hg1
    obtain ⟨q4, _, _⟩ := numV_eq (n := xs[i]) (b := 9) (by omega) (by omega) σ1
    obtain ⟨σ2, st2, e2, H2, s2, t1, t2, t3, t4⟩ := order_b0 hN n (i + 1) σ1 F st1 (by omega) (hv.keep fun k hk => s1.get k (fun e => by have := hF k e; omega) (by omega)) H1 hF (by have := s1.next; omega)
      (by rw [b1.N]; exact h1) (by rw [b1.m]; exact h2) (fun x hx => by rw [b1.pl x]; exact h3 x (by have := b1.N; omega)) (fun x hx => by
        rw [b1.sc]; unfold upd
        have := h4 x (by have := b1.N; omega)
        split
        · rename_i h; subst h; rw [if_pos (Nat.le_refl _), ho]
        · rw [this]; split
          · rw [if_pos (by omega)]
          · rw [if_neg (by omega)])
    refine ⟨σ2, st2, loopW_next ?_ e2, H2, s1.trans s2, t1, t2, t3, t4⟩
    unfold S.skolemlaw14_HeapOrder.b0
    have wi : IntKind.i64.wrap ((i : Int) + 1) = ((i + 1 : Nat) : Int) := by rw [wrap_small (by omega) (by omega)]; omega
    simp only [lenV]
    rw [decide_eq_true (by omega), cond_true, r1, r2, q1]
    simp only [Option.bind_some, wi]
    rw [e1]
    simp only [Option.bind_some]
    rw [r3, r1, chk_true rfl, r4, r2, chk_true rfl, q4]
    simp only [Option.bind_some, bne_self_eq_false, cond_false]

/-- A slice of ints of one's own. -/
def IsL (b : Nat) (σ : Heap) (v : AVal) (xs : List Int) : Prop := (v = .nils ∧ xs = []) ∨ ∃ lo, b ≤ lo ∧ lo < σ.next ∧ v = .sl lo 0 xs.length none ∧ σ.get lo = some (.cells .rw 1 (cellsI xs))

theorem IsL.push {b : Nat} {σ : Heap} {v : AVal} {xs : List Int} (h : IsL b σ v xs) (x : Int) (hn : xs.length < 1000000) (hb : b ≤ σ.next) :
    ∃ v' σ', (∀ {Rt : Type} (K : AVal → Heap → Option Rt), (newK σ 1 [(.int .i64 x)] fun l56 σ57 => appS σ57 1 8 v (.sl l56 0 1 none) K) = K v' σ') ∧ IsL b σ' v' (xs ++ [x]) ∧ σ.next ≤ σ'.next ∧ ∀ l, l < b → σ'.get l = σ.get l := by
  have x1 : (σ.new (.cells .rw 1 [.int .i64 x])).next = σ.next + 1 := rfl
  have g1 : ∀ l, l < σ.next → (σ.new (.cells .rw 1 [.int .i64 x])).get l = σ.get l := fun l hl => by rw [new_get, if_neg (by omega)]
  have ga : (σ.new (.cells .rw 1 [.int .i64 x])).get σ.next = some (.cells .rw 1 [.int .i64 x]) := by rw [new_get, if_pos rfl]
  rcases h with ⟨rfl, rfl⟩ | ⟨lo, a, c, rfl, g⟩
  · refine ⟨.sl (σ.next + 1) 0 1 none, (σ.new (.cells .rw 1 [.int .i64 x])).new (.cells .rw 1 (cellsI [x])), fun K => by simp only [newK]; rw [app_list0 ga]; rfl, .inr ⟨σ.next + 1, by omega, ?_, rfl, ?_⟩, ?_, fun l hl => ?_⟩
    · rw [new_next, x1]; omega
    · rw [new_get, if_pos x1.symm]; rfl
    · rw [new_next, x1]; omega
    · rw [new_get, if_neg (by omega), g1 l (by omega)]
  · refine ⟨.sl (σ.next + 1) 0 (xs.length + 1) none, ((σ.new (.cells .rw 1 [.int .i64 x])).kill lo).new (.cells .rw 1 (cellsI (xs ++ [x]))), fun K => by simp only [newK]; rw [app_list ((g1 lo c).trans g) ga hn]; rfl, .inr ⟨σ.next + 1, by omega, ?_, by rw [List.length_append]; rfl, ?_⟩, ?_, fun l hl => ?_⟩
    · rw [new_next]; show σ.next + 1 < (σ.new (.cells .rw 1 [.int .i64 x])).next + 1; omega
    · rw [new_get, if_pos (show σ.next + 1 = ((σ.new (.cells .rw 1 [.int .i64 x])).kill lo).next from x1.symm)]
    · rw [new_next]; show σ.next ≤ (σ.new (.cells .rw 1 [.int .i64 x])).next + 1; omega
    · rw [new_get, kill_next, if_neg (by omega), kill_get, if_neg (by omega), g1 l (by omega)]

/-- The greatest score below k. -/
structure Best (M : Nat → Prop) (sc : Nat → Int) (k : Nat) (b : Int) : Prop where
  le : ∀ u, u < k → M u → sc u ≤ b
  at' : b = -1 ∨ ∃ u, u < k ∧ M u ∧ sc u = b

abbrev tabB (n : Nat) (f : Nat → Bool) : List AVal := (List.range n).map fun i => .bool (f i)
theorem tabB_get {n i : Nat} (f : Nat → Bool) (h : i < n) : (tabB n f)[i]? = some (.bool (f i)) := by simp [h]
theorem tabB_set {n k : Nat} (f : Nat → Bool) (x : Bool) : (tabB n f).set k (.bool x) = tabB n (upd f k x) := by
  apply List.ext_getElem? fun i => ?_
  rw [List.getElem?_set]
  by_cases hi : i < n
  · rw [tabB_get _ hi]
    by_cases h : k = i
    · subst h; simp [hi, upd]
    · rw [if_neg h, tabB_get _ hi, upd_ne _ _ (Ne.symm h)]
  · by_cases h : k = i
    · subst h; simp [hi]
    · simp [hi, h]
theorem ld_tabB {Rt : Type} {σ : Heap} {l n k : Nat} {f : Nat → Bool} {md : Md} (hg : σ.get l = some (.cells md 1 (tabB n f))) (h : k < n) (K : Bool → Option Rt) : ld σ (.ptr l k) .B K = K (f k) := by
  simp only [ld, Heap.cell, hg, tabB_get f h, asK]

/-- Those of the greatest score below k, as the law finds them. -/
def among (seen : Nat → Bool) (sc : Nat → Int) (k : Nat) (b : Int) : List Nat := (List.range k).filter fun u => decide (0 < u ∧ seen u = false ∧ sc u = b)

theorem among_len (seen : Nat → Bool) (sc : Nat → Int) (k : Nat) (b : Int) : (among seen sc k b).length ≤ k := Nat.le_trans (List.length_filter_le _ _) (by simp)

theorem order_b1 {lh b0 lseen : Nat} {v w : AVal} {xs : List Int} {ok : Bool} {seen : Nat → Bool} {x1 x2 : Int} {B : Nat} (hN : xs.length ≤ 40) : ∀ (n k : Nat) (σ : Heap) (lv : AVal) (b : Int), k + n = xs.length + 1 → 0 < k → IsInts b0 σ v xs → b0 ≤ B → lseen < B → B ≤ σ.next →
    σ.get lseen = some (.cells .rw 1 (tabB (xs.length + 1) seen)) → -1 ≤ b → Best (fun u => 0 < u ∧ seen u = false) (ordS xs) k b →
    IsL B σ lv ((among seen (ordS xs) k b).map fun u : Nat => (u : Int)) →
    ∃ σ' lv' b', loopW (S.skolemlaw14_HeapOrder.b1 v w ok (.ptr lh 0) (.sl lseen 0 (xs.length + 1) none) x1 x2) (lv, b, (k : Int)) σ = some (lv', σ') ∧ σ.next ≤ σ'.next ∧ (∀ l, l < B → σ'.get l = σ.get l) ∧
      IsL B σ' lv' ((among seen (ordS xs) (xs.length + 1) b').map fun u : Nat => (u : Int)) ∧ Best (fun u => 0 < u ∧ seen u = false) (ordS xs) (xs.length + 1) b'
  | 0, k, σ, lv, b, hn, hk, hv, _, hls, hB, hg, hb, hbest, hl => by
    have : k = xs.length + 1 := by omega
    subst this
    refine ⟨σ, lv, b, loopW_stop ?_, Nat.le_refl _, fun _ _ => rfl, hl, hbest⟩
    unfold S.skolemlaw14_HeapOrder.b1
    rw [hv.len]
    dsimp only
    rw [decide_eq_false (by omega), cond_false]
  | n + 1, k, σ, lv, b, hn, hk, hv, hb0, hls, hB, hg, hb, hbest, hl => by
    obtain ⟨l, hll, rfl, hr⟩ := hv.at (i := k - 1) (by omega)
    obtain ⟨r1, r2⟩ := hr σ rfl
    obtain ⟨q1, q2, q3⟩ := numV_eq (n := xs[k - 1]) (b := 9) (by omega) (by omega) σ
    have ho : ordS xs k = numV xs[k - 1] 9 := by unfold ordS; rw [if_pos ⟨by omega, by omega⟩]; simp [show k - 1 < xs.length by omega]
    rw [← ho] at q1 q2 q3
    have wk : IntKind.i64.wrap ((k : Int) - 1) = ((k - 1 : Nat) : Int) := by rw [wrap_small (by omega) (by omega)]; omega
    have wk1 : IntKind.i64.wrap ((k : Int) + 1) = ((k + 1 : Nat) : Int) := by rw [wrap_small (by omega) (by omega)]; omega
    -- a round
    have round : ∃ lv' σ' b', S.skolemlaw14_HeapOrder.b1 (.sl l 0 xs.length none) w ok (.ptr lh 0) (.sl lseen 0 (xs.length + 1) none) x1 x2 (lv, b, (k : Int)) σ = some (.inl (lv', b', ((k + 1 : Nat) : Int)), σ') ∧ σ.next ≤ σ'.next ∧ (∀ l, l < B → σ'.get l = σ.get l) ∧
        -1 ≤ b' ∧ Best (fun u => 0 < u ∧ seen u = false) (ordS xs) (k + 1) b' ∧ IsL B σ' lv' ((among seen (ordS xs) (k + 1) b').map fun u : Nat => (u : Int)) := by
      unfold S.skolemlaw14_HeapOrder.b1
      simp only [lenV]
      rw [decide_eq_true (by omega), cond_true, wk, r1, r2, q1]
      simp only [Option.bind_some, wk1]
      rw [ix_one hg (show k < xs.length + 1 by omega), ld_tabB hg (by omega)]
      have hsucc : ∀ b', among seen (ordS xs) (k + 1) b' = among seen (ordS xs) k b' ++ if seen k = false ∧ ordS xs k = b' then [k] else [] := by
        intro b'
        unfold among
        rw [List.range_succ, List.filter_append]
        congr 1
        by_cases h : seen k = false ∧ ordS xs k = b'
        · rw [if_pos h]; simp [h, hk]
        · rw [if_neg h]
          have : decide (0 < k ∧ seen k = false ∧ ordS xs k = b') = false := decide_eq_false fun e => h e.2
          simp only [List.filter_cons, this, List.filter_nil, Bool.false_eq_true, if_false]
      cases hsk : seen k with
      | true =>
        simp only [cond_true, Option.bind_some]
        refine ⟨lv, σ, b, rfl, Nat.le_refl _, fun _ _ => rfl, hb, ⟨fun u hu hM => ?_, ?_⟩, ?_⟩
        · by_cases e : u = k
          · subst e; rw [hsk] at hM; cases hM.2
          · exact hbest.le u (by omega) hM
        · exact hbest.at'.imp id fun ⟨u, a, c⟩ => ⟨u, by omega, c⟩
        · rw [hsucc, if_neg (by simp [hsk]), List.append_nil]; exact hl
      | false =>
        simp only [cond_false, Option.bind_some]
        by_cases hlt : ordS xs k < b
        · rw [decide_eq_true hlt, cond_true]
          refine ⟨lv, σ, b, rfl, Nat.le_refl _, fun _ _ => rfl, hb, ⟨fun u hu hM => ?_, ?_⟩, ?_⟩
          · by_cases e : u = k
            · subst e; omega
            · exact hbest.le u (by omega) hM
          · exact hbest.at'.imp id fun ⟨u, a, c⟩ => ⟨u, by omega, c⟩
          · rw [hsucc, if_neg (fun e => by omega), List.append_nil]; exact hl
        · rw [decide_eq_false hlt, cond_false]
          by_cases hgt : ordS xs k > b
          · rw [decide_eq_true hgt, cond_true]
            simp only [Option.bind_some]
            obtain ⟨v', σ', e1, e2, e3, e4⟩ := (show IsL B σ .nils [] from .inl ⟨rfl, rfl⟩).push (k : Int) (by simp) hB
            refine ⟨v', σ', ordS xs k, by rw [e1]; rfl, e3, e4, by omega, ⟨fun u hu hM => ?_, .inr ⟨k, by omega, ⟨hk, hsk⟩, rfl⟩⟩, ?_⟩
            · by_cases e : u = k
              · subst e; exact Int.le_refl _
              · have := hbest.le u (by omega) hM; omega
            · have : among seen (ordS xs) k (ordS xs k) = [] := by
                unfold among
                rw [List.filter_eq_nil_iff]
                intro u hu
                rw [List.mem_range] at hu
                simp only [decide_eq_true_eq]
                rintro ⟨a, c, d⟩
                have := hbest.le u hu ⟨a, c⟩
                omega
              rw [hsucc, if_pos ⟨hsk, rfl⟩, this]; exact e2
          · rw [decide_eq_false hgt, cond_false]
            simp only [Option.bind_some]
            have he : ordS xs k = b := by omega
            have hlen := among_len seen (ordS xs) k b
            obtain ⟨v', σ', e1, e2, e3, e4⟩ := hl.push (k : Int) (by rw [List.length_map]; omega) hB
            refine ⟨v', σ', ordS xs k, by rw [e1]; rfl, e3, e4, by omega, ⟨fun u hu hM => ?_, .inr ⟨k, by omega, ⟨hk, hsk⟩, rfl⟩⟩, ?_⟩
            · by_cases e : u = k
              · subst e; exact Int.le_refl _
              · have := hbest.le u (by omega) hM; omega
            · rw [hsucc, if_pos ⟨hsk, rfl⟩, he, List.map_append]; exact e2
    obtain ⟨lv1, σ1, b1, e1, n1, k1, hb1, best1, l1⟩ := round
    obtain ⟨σ2, lv2, b2, e2, n2, k2, l2, best2⟩ := order_b1 (w := w) (ok := ok) (x1 := x1) (x2 := x2) (lh := lh) hN n (k + 1) σ1 lv1 b1 (by omega) (by omega) (hv.keep fun l hl => k1 l (by omega)) hb0 hls (by omega) ((k1 lseen hls).trans hg) hb1 best1 l1
    exact ⟨σ2, lv2, b2, loopW_next e1 e2, by omega, fun l hl => (k2 l hl).trans (k1 l hl), l2, best2⟩
end Go.Proofs.Ytcmaphhcbgdigaa.A
