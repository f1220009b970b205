/- The program's heap: best, Pop. -/
import Derived.Test.YtcmaphhcbgdigaaH8
import Derived.Test.YtcmaphhcbgdigaaH9
set_option linter.all false
namespace Go.Proofs.Ytcmaphhcbgdigaa.A
open Go

abbrev cellsI (l : List Int) : List AVal := l.map (.int .i64)
section
variable {Rt : Type}
/-- One more number behind a list of numbers, its cells just these. -/
theorem app_list {σ : Heap} {l : Nat} {zs : List Int} {x : Int} {la : Nat} (hg : σ.get l = some (.cells .rw 1 (cellsI zs))) (ha : σ.get la = some (.cells .rw 1 [.int .i64 x])) (hn : zs.length < 1000000) (K : AVal → Heap → Option Rt) :
    appS σ 1 8 (.sl l 0 zs.length none) (.sl la 0 1 none) K = K (.sl σ.next 0 (zs.length + 1) none) ((σ.kill l).new (.cells .rw 1 (cellsI (zs ++ [x])))) := by
  simp only [appS, srcK, ha, appC, hg, newK, kill_next]
  rw [if_pos (by simp), if_pos (by simp), if_neg (by simp), if_pos (by omega), if_pos True.intro, if_neg (by simp)]
  simp only [Nat.zero_mul, List.drop_zero, Nat.one_mul, Nat.mul_one, List.take_one, List.head?_cons, Option.toList]
  rw [List.take_of_length_le (by simp), show cellsI (zs ++ [x]) = cellsI zs ++ [.int .i64 x] by simp]
theorem app_list0 {σ : Heap} {x : Int} {la : Nat} (ha : σ.get la = some (.cells .rw 1 [.int .i64 x])) (K : AVal → Heap → Option Rt) :
    appS σ 1 8 .nils (.sl la 0 1 none) K = K (.sl σ.next 0 1 none) (σ.new (.cells .rw 1 (cellsI [x]))) := by
  simp only [appS, srcK, ha, appC, newK]
  rw [if_pos (by simp), if_neg (by simp), if_pos (by omega)]
  rfl
theorem ld_list {σ : Heap} {l k : Nat} {zs : List Int} {md : Md} (hg : σ.get l = some (.cells md 1 (cellsI zs))) (h : k < zs.length) (K : Int → Option Rt) : ld σ (.ptr l k) (.I .i64) K = K zs[k] := by
  simp [ld, Heap.cell, hg, asK, h]
end

/-- The world of `best`: its three boxes, and what it has found. -/
structure Cx9 (σ0 : Heap) (lh : Nat) (σ : Heap) (out : List Int) : Prop where
  le : σ0.next + 3 ≤ σ.next
  keep : ∀ l, l < σ0.next → σ.get l = σ0.get l
  c1 : σ.get σ0.next = some (.cells .rw 1 [.ptr lh 0])
  c5 : σ.get (σ0.next + 2) = some (.cells .rw 1 [.fn (.func 33) [] [.ptr σ0.next 0, .ptr (σ0.next + 1) 0, .ptr (σ0.next + 2) 0]])
  c3 : (out = [] ∧ σ.get (σ0.next + 1) = some (.cells .rw 1 [.nils])) ∨ ∃ lo, σ0.next + 3 ≤ lo ∧ lo < σ.next ∧ σ.get (σ0.next + 1) = some (.cells .rw 1 [.sl lo 0 out.length none]) ∧ σ.get lo = some (.cells .rw 1 (cellsI out))

theorem Cx9.push {σ0 : Heap} {lh : Nat} {σ : Heap} {out : List Int} (c : Cx9 σ0 lh σ out) (x : Int) (hn : out.length < 1000000) :
    ∃ σ', Cx9 σ0 lh σ' (out ++ [x]) ∧ ∀ {Rt : Type} (K : Heap → Option Rt), (ld σ (.ptr (σ0.next + 1) 0) .V fun v26 => newK σ 1 [(.int .i64 x)] fun l32 σ33 => appS σ33 1 8 v26 (.sl l32 0 1 none) fun v34 σ35 => scal v34 (stC σ35 (.ptr (σ0.next + 1) 0) [v34] K)) = K σ' := by
  have hle := c.le
  have x1 : (σ.new (.cells .rw 1 [.int .i64 x])).next = σ.next + 1 := rfl
  have g1 : ∀ l, l < σ.next → (σ.new (.cells .rw 1 [.int .i64 x])).get l = σ.get l := fun l hl => by rw [new_get, if_neg (by omega)]
  have ga : (σ.new (.cells .rw 1 [.int .i64 x])).get σ.next = some (.cells .rw 1 [.int .i64 x]) := by rw [new_get, if_pos rfl]
  rcases c.c3 with ⟨rfl, h3⟩ | ⟨lo, a, b, h3, h4⟩
  · generalize hσ1 : σ.new (.cells .rw 1 [.int .i64 x]) = σ1 at *
    generalize hσ2 : σ1.new (.cells .rw 1 (cellsI [x])) = σ2
    have g2 : ∀ l, l < σ.next → σ2.get l = σ.get l := fun l hl => by rw [← hσ2, new_get, if_neg (by omega), g1 l hl]
    have x2 : σ2.next = σ.next + 2 := by rw [← hσ2, new_next, x1]
    have g2' : σ2.get (σ.next + 1) = some (.cells .rw 1 (cellsI [x])) := by rw [← hσ2, new_get, if_pos x1.symm]
    have h3' := (g2 (σ0.next + 1) (by omega)).trans h3
    refine ⟨σ2.set (σ0.next + 1) (.cells .rw 1 [.sl (σ.next + 1) 0 1 none]), ⟨by rw [set_next]; omega, fun l hl => by rw [set_get, if_neg (by omega), g2 l (by omega)]; exact c.keep l hl, by rw [set_get, if_neg (by omega), g2 _ (by omega)]; exact c.c1,
      by rw [set_get, if_neg (by omega), g2 _ (by omega)]; exact c.c5, .inr ⟨σ.next + 1, by omega, by rw [set_next]; omega, by rw [set_get, if_pos rfl]; rfl, by rw [set_get, if_neg (by omega)]; exact g2'⟩⟩, fun K => ?_⟩
    rw [ld_v h3 rfl]
    simp only [newK, hσ1]
    rw [app_list0 ga, hσ2]
    simp only [scal]
    rw [stC_one h3' (by simp), x1]; rfl
  · generalize hσ1 : σ.new (.cells .rw 1 [.int .i64 x]) = σ1 at *
    generalize hσ2 : (σ1.kill lo).new (.cells .rw 1 (cellsI (out ++ [x]))) = σ2
    have g2 : ∀ l, l ≠ lo → l < σ.next → σ2.get l = σ.get l := fun l hlo hl => by rw [← hσ2, new_get, kill_next, if_neg (by omega), kill_get, if_neg hlo, g1 l hl]
    have x2 : σ2.next = σ.next + 2 := by rw [← hσ2, new_next, kill_next, x1]
    have g2' : σ2.get (σ.next + 1) = some (.cells .rw 1 (cellsI (out ++ [x]))) := by rw [← hσ2, new_get, kill_next, if_pos x1.symm]
    have h3' := (g2 (σ0.next + 1) (by omega) (by omega)).trans h3
    refine ⟨σ2.set (σ0.next + 1) (.cells .rw 1 [.sl (σ.next + 1) 0 (out.length + 1) none]), ⟨by rw [set_next]; omega, fun l hl => by rw [set_get, if_neg (by omega), g2 l (by omega) (by omega)]; exact c.keep l hl, by rw [set_get, if_neg (by omega), g2 _ (by omega) (by omega)]; exact c.c1,
      by rw [set_get, if_neg (by omega), g2 _ (by omega) (by omega)]; exact c.c5, .inr ⟨σ.next + 1, by omega, by rw [set_next]; omega, by rw [set_get, if_pos rfl, List.length_append]; rfl, by rw [set_get, if_neg (by omega)]; exact g2'⟩⟩, fun K => ?_⟩
    rw [ld_v h3 rfl]
    simp only [newK, hσ1]
    rw [app_list ((g1 lo b).trans h4) ga hn, hσ2]
    simp only [scal]
    rw [stC_one h3' (by simp), x1]; rfl

section
variable {σ0 : Heap} {lh ls lp lb M : Nat} {st : HS}

abbrev outs (st : HS) (l : List Nat) : List Int := l.map fun i => (st.hs i : Int)

theorem look_run (H : HAt σ0 lh ls lp lb M st) (w : st.WF) (hm : 0 < st.m) : ∀ (n k : Nat) (σ : Heap) (out : List Int), st.m ≤ k + n → k ≤ 20000 → out.length + (lookI st n k).length ≤ 5000 → Cx9 σ0 lh σ out →
    ∃ σ', (∀ j, n ≤ j → S.heap_Heap_best_1.n (j + 1) k (.ptr σ0.next 0) (.ptr (σ0.next + 1) 0) (.ptr (σ0.next + 2) 0) σ = some ((), σ')) ∧ Cx9 σ0 lh σ' (out ++ outs st (lookI st n k)) := by
  have hM := H.mM; have hN := H.mN; have hbig := H.big
  -- the test
  have test : ∀ (self : Int → AVal → AVal → AVal → Heap → Option (Unit × Heap)) (k : Nat) (σ : Heap) (out : List Int), Cx9 σ0 lh σ out → k ≤ 20000 →
      S.heap_Heap_best_1.r self k (.ptr σ0.next 0) (.ptr (σ0.next + 1) 0) (.ptr (σ0.next + 2) 0) σ = if k < st.m ∧ st.sc (st.hs k) = st.sc (st.hs 0) then
        (ld σ (.ptr (σ0.next + 1) 0) .V fun v26 => newK σ 1 [(.int .i64 (st.hs k : Int))] fun l32 σ33 => appS σ33 1 8 v26 (.sl l32 0 1 none) fun v34 σ35 => scal v34 (stC σ35 (.ptr (σ0.next + 1) 0) [v34] fun σ36 =>
          ld σ36 (.ptr (σ0.next + 2) 0) .V fun v37 => callV (tab 33 (.eff [] fun args σ => packs args [.I .i64, .V, .V, .V] fun x => self x.1 x.2.1 x.2.2.1 x.2.2.2 σ) noSpec) v37 [(.int .i64 ((2 * k + 1 : Nat) : Int))] σ36 fun r38 σ39 =>
          ld σ39 (.ptr (σ0.next + 2) 0) .V fun v40 => callV (tab 33 (.eff [] fun args σ => packs args [.I .i64, .V, .V, .V] fun x => self x.1 x.2.1 x.2.2.1 x.2.2.2 σ) noSpec) v40 [(.int .i64 ((2 * k + 2 : Nat) : Int))] σ39 fun r41 σ42 => some ((), σ42)))
        else some ((), σ) := by
    intro self k σ out c hk
    have h : ∀ l, foot lh ls lp lb l → σ.get l = σ0.get l := fun l hl => c.keep l (by
      rcases hl with rfl | rfl | rfl | rfl
      · exact H.lt.1
      · exact H.lt.2.1
      · exact H.lt.2.2.1
      · exact H.lt.2.2.2)
    have Hk : HAt σ lh ls lp lb M st := H.keep (by have := c.le; omega) h
    unfold S.heap_Heap_best_1.r
    have e1 : IntKind.i64.wrap (IntKind.i64.wrap (2 * (k : Int)) + 1) = ((2 * k + 1 : Nat) : Int) := wrap_2k1 (by omega)
    have e2 : IntKind.i64.wrap (IntKind.i64.wrap (2 * (k : Int)) + 2) = ((2 * k + 2 : Nat) : Int) := by
      rw [wrap_small (n := 2 * (k : Int)) (by omega) (by omega), wrap_small (by omega) (by omega)]; omega
    have l1 : ∀ {Rt : Type} (K : AVal → Option Rt), ld σ (.ptr σ0.next 0) .V K = K (.ptr lh 0) := fun K => ld_v c.c1 rfl K
    simp only [l1, nilck, fld, Hk.l2, Hk.l0, lenV, e1, e2]
    by_cases hkm : k < st.m
    · have hv := (w.hs k hkm).2.1
      have hv0 := (w.hs 0 hm).2.1
      rw [decide_eq_true (by omega), cond_true, ix_one Hk.b hkm, ld_arr Hk.b (by omega), show nat st.hs k = ((st.hs k : Nat) : Int) from rfl, ix_one Hk.s hv, ld_arr Hk.s hv,
        ix_int Hk.b (by omega) (by omega), ld_arr Hk.b (by show 0 < M; omega), show nat st.hs (Int.toNat 0) = ((st.hs 0 : Nat) : Int) from rfl, ix_one Hk.s hv0, ld_arr Hk.s hv0]
      simp only [Option.bind_some]
      by_cases hs : st.sc (st.hs k) = st.sc (st.hs 0)
      · rw [if_pos ⟨hkm, hs⟩]
        have : (st.sc (st.hs k) == st.sc (st.hs 0)) = true := by simpa using hs
        rw [this, cond_true]
        rcases c.c3 with ⟨rfl, h3⟩ | ⟨lo, a, b, h3, h4⟩
        · rw [ld_v h3 rfl, ld_v h3 rfl, ix_one Hk.b hkm, ld_arr Hk.b (by omega)]; rfl
        · rw [ld_v h3 rfl, ld_v h3 rfl, ix_one Hk.b hkm, ld_arr Hk.b (by omega)]; rfl
      · rw [if_neg (fun e => hs e.2)]
        have : (st.sc (st.hs k) == st.sc (st.hs 0)) = false := by simpa using hs
        rw [this, cond_false]
    · rw [decide_eq_false (by omega), cond_false, if_neg (fun e => hkm e.1)]
      simp only [Option.bind_some, cond_false]
  have call : ∀ {Rt : Type} (self : Int → AVal → AVal → AVal → Heap → Option (Unit × Heap)) (j : Int) (σ σ' : Heap) (out : List Int), Cx9 σ0 lh σ out → self j (.ptr σ0.next 0) (.ptr (σ0.next + 1) 0) (.ptr (σ0.next + 2) 0) σ = some ((), σ') → ∀ (K : AVal → Heap → Option Rt),
      (ld σ (.ptr (σ0.next + 2) 0) .V fun v37 => callV (tab 33 (.eff [] fun args σ => packs args [.I .i64, .V, .V, .V] fun x => self x.1 x.2.1 x.2.2.1 x.2.2.2 σ) noSpec) v37 [(.int .i64 j)] σ K) = K (.tup []) σ' := by
    intro Rt self j σ σ' out c hs K
    rw [ld_v c.c5 rfl]
    show ((self j (.ptr σ0.next 0) (.ptr (σ0.next + 1) 0) (.ptr (σ0.next + 2) 0) σ).bind fun r => K (retV [] r.1) r.2) = _
    rw [hs]; rfl
  intro n
  induction n with
  | zero =>
    intro k σ out hn hk hl c
    refine ⟨σ, fun j _ => ?_, by simpa [lookI] using c⟩
    show S.heap_Heap_best_1.r (S.heap_Heap_best_1.n j) k _ _ _ σ = _
    rw [test _ k σ out c hk, if_neg (fun e => by omega)]
  | succ n ih =>
    intro k σ out hn hk hl c
    unfold lookI at hl ⊢
    by_cases hc : k < st.m ∧ st.sc (st.hs k) = st.sc (st.hs 0)
    · rw [if_pos hc] at hl ⊢
      simp only [List.length_cons, List.length_append] at hl
      obtain ⟨σ1, c1, e1⟩ := c.push (st.hs k : Int) (by omega)
      obtain ⟨σ2, e2, c2⟩ := ih (2 * k + 1) σ1 (out ++ [(st.hs k : Int)]) (by omega) (by omega) (by simp only [List.length_append, List.length_cons, List.length_nil]; omega) c1
      obtain ⟨σ3, e3, c3⟩ := ih (2 * k + 2) σ2 _ (by omega) (by omega) (by simp only [List.length_append, List.length_map, List.length_cons, List.length_nil]; omega) c2
      refine ⟨σ3, fun j hj => ?_, ?_⟩
      · obtain ⟨j, rfl⟩ : ∃ i, j = i + 1 := ⟨j - 1, by omega⟩
        show S.heap_Heap_best_1.r (S.heap_Heap_best_1.n (j + 1)) k _ _ _ σ = _
        rw [test _ k σ out c hk, if_pos hc, e1, call _ _ σ1 σ2 _ c1 (e2 j (by omega)), call _ _ σ2 σ3 _ c2 (e3 j (by omega))]
      · have : out ++ outs st (k :: (lookI st n (2 * k + 1) ++ lookI st n (2 * k + 2))) = out ++ [(st.hs k : Int)] ++ outs st (lookI st n (2 * k + 1)) ++ outs st (lookI st n (2 * k + 2)) := by simp
        rw [this]; exact c3
    · rw [if_neg hc] at hl ⊢
      refine ⟨σ, fun j _ => ?_, by simpa using c⟩
      show S.heap_Heap_best_1.r (S.heap_Heap_best_1.n j) k _ _ _ σ = _
      rw [test _ k σ out c hk, if_neg hc]

theorem sort_list {σ : Heap} {lo : Nat} {c : Option Nat} {zs : List Int} (h : σ.get lo = some (.cells .rw 1 (cellsI zs))) (h0 : 0 < zs.length) (hn : zs.length < 1000000) :
    sortS (.sl lo 0 zs.length c) σ = some ((), σ.set lo (.cells .rw 1 (cellsI (sorted zs)))) := by
  simp only [sortS, h]
  rw [if_pos ⟨h0, by simp, by omega⟩, List.drop_zero, List.take_of_length_le (by simp), intsL_map]
  have : (cellsI zs).drop (0 + zs.length) = [] := List.drop_of_length_le (by rw [List.length_map]; omega)
  simp only [this, List.take_zero, List.nil_append, List.append_nil]

/-- `best`: a new slice of those of the greatest score. -/
theorem best_eq (H : HAt σ0 lh ls lp lb M st) (w : st.WF) (ho : st.HO) (hm : 0 < st.m) :
    ∃ σ' lo, S.heap_Heap_best (.ptr lh 0) σ0 = some (.sl lo 0 (tops st).length none, σ') ∧ σ'.get lo = some (.cells .rw 1 (cellsI ((tops st).map fun v : Nat => (v : Int)))) ∧ σ0.next ≤ lo ∧ σ0.next ≤ σ'.next ∧ ∀ l, l < σ0.next → σ'.get l = σ0.get l := by
  have hlen : (lookI st st.m 0).length = (tops st).length := by have := (look_perm w ho).length_eq; simpa using this
  have hN : (tops st).length ≤ st.N := by unfold tops; exact Nat.le_trans (List.length_filter_le _ _) (by simp)
  have hbig := H.big
  have h0 : 0 < (tops st).length := List.length_pos_iff.2 (tops_pos w hm)
  unfold S.heap_Heap_best
  simp only [scal, newK]
  generalize hσ1 : σ0.new (.cells .rw 1 [.ptr lh 0]) = σ1
  have x1 : σ1.next = σ0.next + 1 := by rw [← hσ1]; rfl
  generalize hσ2 : σ1.new (.cells .rw 1 [.nils]) = σ2
  have x2 : σ2.next = σ0.next + 2 := by rw [← hσ2, new_next, x1]
  generalize hσ3 : σ2.new (.cells .rw 1 [.nilf]) = σ3
  have x3 : σ3.next = σ0.next + 3 := by rw [← hσ3, new_next, x2]
  have g5 : σ3.get (σ0.next + 2) = some (.cells .rw 1 [.nilf]) := by rw [← hσ3, new_get, if_pos x2.symm]
  have g3 : σ3.get (σ0.next + 1) = some (.cells .rw 1 [.nils]) := by rw [← hσ3, new_get, if_neg (by omega), ← hσ2, new_get, if_pos x1.symm]
  have g1 : σ3.get σ0.next = some (.cells .rw 1 [.ptr lh 0]) := by rw [← hσ3, new_get, if_neg (by omega), ← hσ2, new_get, if_neg (by omega), ← hσ1, new_get, if_pos rfl]
  have gk : ∀ l, l < σ0.next → σ3.get l = σ0.get l := fun l hl => by rw [← hσ3, new_get, if_neg (by omega), ← hσ2, new_get, if_neg (by omega), ← hσ1, new_get, if_neg (by omega)]
  rw [x1, x2, stC_one g5 (by simp)]
  generalize hσ4 : σ3.set (σ0.next + 2) _ = σ4
  have x4 : σ4.next = σ0.next + 3 := by rw [← hσ4, set_next, x3]
  have c4 : Cx9 σ0 lh σ4 [] := ⟨by omega, fun l hl => by rw [← hσ4, set_get, if_neg (by omega)]; exact gk l hl, by rw [← hσ4, set_get, if_neg (by omega)]; exact g1,
    by rw [← hσ4, set_get, if_pos rfl]; rfl, .inl ⟨rfl, by rw [← hσ4, set_get, if_neg (by omega)]; exact g3⟩⟩
  obtain ⟨σ5, e5, c5⟩ := look_run H w hm st.m 0 σ4 [] (by omega) (by omega) (by simp; omega) c4
  have el : S.heap_Heap_best_1 ((0 : Nat) : Int) (.ptr σ0.next 0) (.ptr (σ0.next + 1) 0) (.ptr (σ0.next + 2) 0) σ4 = some ((), σ5) := by
    unfold S.heap_Heap_best_1
    refine lim_of (st.m + 1) fun n hn => ?_
    obtain ⟨n, rfl⟩ : ∃ i, n = i + 1 := ⟨n - 1, by omega⟩
    exact e5 n (by omega)
  rw [ld_v c4.c5 rfl]
  show ∃ σ' lo, ((S.heap_Heap_best_1 ((0 : Nat) : Int) (.ptr σ0.next 0) (.ptr (σ0.next + 1) 0) (.ptr (σ0.next + 2) 0) σ4).bind fun r => ld r.2 (.ptr (σ0.next + 1) 0) .V fun v11 => (S.slices_Sort_int_int v11 r.2).bind fun r12 => ld r12.2 (.ptr (σ0.next + 1) 0) .V fun v13 => some (v13, r12.2)) = _ ∧ _
  rw [el]
  simp only [Option.bind_some, List.nil_append] at c5 ⊢
  rcases c5.c3 with ⟨e, _⟩ | ⟨lo, a, b, h3, h4⟩
  · have := congrArg List.length e
    simp at this
    rw [this] at hlen; simp at hlen; omega
  · have hl2 : (outs st (lookI st st.m 0)).length = (tops st).length := by rw [List.length_map]; exact hlen
    rw [ld_v h3 rfl]
    unfold S.slices_Sort_int_int
    rw [sort_list h4 (by omega) (by omega)]
    simp only [Option.bind_some]
    rw [ld_v (σ := σ5.set lo _) (by rw [set_get, if_neg (by omega)]; exact h3) rfl, hl2]
    refine ⟨_, lo, rfl, ?_, by omega, by rw [set_next]; have := c5.le; omega, fun l hl => ?_⟩
    · rw [set_get, if_pos rfl, look_sorted w ho]
    · rw [set_get, if_neg (by omega)]; exact c5.keep l hl

variable {F : Nat → Prop}
/-- `Pop`, among equals. -/
theorem pop_tie (H : Hp σ0 lh F st) (hm : 0 < st.m) {tie : Int} (ht : tie ≠ 0) (hb : -9223372036854775808 ≤ tie ∧ tie < 9223372036854775808) :
    ∃ σ' F' st' v, S.heap_Heap_Pop (.ptr lh 0) tie σ0 = some ((((v : Nat) : Int), true), σ') ∧ (tops st)[(Int.tmod (Int.tmod tie (tops st).length + (tops st).length) (tops st).length).toNat]? = some v ∧ Hp σ' lh F' st' ∧ Step σ0 σ' F F' ∧ Taken st st' v := by
  obtain ⟨ls, lp, lb, M, h, hF⟩ := H.full hm
  have hM := h.mM; have hbig := h.big
  have hN : (tops st).length ≤ st.N := by unfold tops; exact Nat.le_trans (List.length_filter_le _ _) (by simp)
  have h0 : 0 < (tops st).length := List.length_pos_iff.2 (tops_pos H.wf hm)
  obtain ⟨σ1, lo, e1, g1, hlo, hn1, k1⟩ := best_eq h H.wf H.ho hm
  have H1 : Hp σ1 lh F st := H.keep hn1 fun l hl => k1 l (H.at'.lt hl)
  generalize hL : (tops st).length = L at *
  have r1 : -(L : Int) < Int.tmod tie L ∧ Int.tmod tie L < L := ⟨by have := Int.tmod_lt_of_pos (-tie) (show (0 : Int) < L by omega); rw [Int.neg_tmod] at this; omega, Int.tmod_lt_of_pos _ (by omega)⟩
  have r2 : 0 ≤ Int.tmod (Int.tmod tie L + L) L ∧ Int.tmod (Int.tmod tie L + L) L < L := ⟨Int.tmod_nonneg _ (by omega), Int.tmod_lt_of_pos _ (by omega)⟩
  generalize hq : Int.tmod (Int.tmod tie L + L) L = q at *
  have hlt : q.toNat < (tops st).length := by omega
  have hmem := List.getElem_mem hlt
  generalize hv : (tops st)[q.toNat] = v at *
  have hv2 : (tops st)[q.toNat]? = some v := by rw [List.getElem?_eq_getElem hlt, hv]
  unfold tops at hmem
  rw [List.mem_filter, List.mem_range, decide_eq_true_iff] at hmem
  obtain ⟨σ', st', e, H', s, t⟩ := pop_tail H1 hmem.1 hmem.2.1
  refine ⟨σ', F, st', v, ?_, hv2, H', Step.trans ⟨hn1, fun l _ hl => k1 l hl, fun l h => .inl h⟩ s, t⟩
  unfold S.heap_Heap_Pop
  have hz : ((st.m : Int) == 0) = false := by simpa using (show st.m ≠ 0 by omega)
  have hz2 : (tie != 0) = true := by simpa using ht
  simp only [nilck, fld, h.l2, lenV, hz, cond_false]
  rw [ix_int h.b (by omega) (by omega), ld_arr h.b (by show 0 < M; omega)]
  rw [hz2, cond_true, e1]
  simp only [Option.bind_some, lenV]
  rw [if_neg (by omega), if_neg (by omega), wrap_small (by omega) (by omega), hq, ix_int g1 r2.1 r2.2]
  rw [ld_list g1 (by rw [List.length_map]; exact hlt)]
  have : (List.map (fun v : Nat => (v : Int)) (tops st))[q.toNat]'(by rw [List.length_map]; exact hlt) = (v : Int) := by rw [List.getElem_map, hv]
  rw [this]
  simp only [Option.bind_some]
  exact e
end
end Go.Proofs.Ytcmaphhcbgdigaa.A
