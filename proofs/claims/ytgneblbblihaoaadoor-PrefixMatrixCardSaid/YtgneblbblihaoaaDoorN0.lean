/- PrefixMatrix, as plain law. -/
import Derived.Test.YtgneblbblihaoaaDoorJ9
set_option linter.all false
namespace Go.Proofs.YtgneblbblihaoaaDoor.A
open Go

theorem abs_eq {σ : Heap} {l : Int} (h : -1152921504606846976 ≤ l ∧ l ≤ 9223372036854775807) : S.skolemref_Abs l σ = some (l.natAbs : Int) := by
  unfold S.skolemref_Abs
  by_cases hl : l < 0
  · rw [show decide (l < 0) = true from decide_eq_true hl]
    simp only [cond_true]; congr 1; rw [wrapS] <;> omega
  · rw [show decide (l < 0) = false from decide_eq_false hl]
    simp only [cond_false]; congr 1; omega

theorem refMatrix_b0 {σ0 : Heap} {e : Bool} {outer inner : List Int} {cs : List (List Int)} {vo vi vc p10 x : AVal} {j : Nat} {c : List Int} (hp : At σ0 p10 [.bool e, vo, vi, vc]) (ho : SlV .int σ0 outer vo) (hi : SlV .int σ0 inner vi) (hc : SlV vIs σ0 cs vc) (h1 : outer.length ≤ 1000) (h2 : inner.length ≤ 1000)
    (hj : cs[j]? = some c) (hn : Nears c) (hlen : c.length ≤ 100000) :
    ∃ r τ, loopW (S.skolemref1_Matrix.b0 p10 x (j : Int)) (.nils, 0) σ0 = some (r, τ) ∧ Hle σ0 τ ∧
      ((renC (outer ++ inner) c = none ∧ r = .inr (.nils, false)) ∨ ∃ zs y, renC (outer ++ inner) c = some zs ∧ r = .inl y ∧ Acc .int σ0.next τ zs y) := by
  obtain ⟨q, f1, B1⟩ := hp.fld 3 (by simp)
  have B1 : At σ0 q (vc :: []) := B1
  obtain ⟨p, us, c2, c3, c1⟩ := hc.ix hj
  obtain ⟨v, rfl, hv⟩ := c3
  have get : ∀ {τ : Heap}, Hle σ0 τ → ∀ {Rt : Type} (K : AVal → Option Rt), (fld p10 3 fun a => ld τ a (.V) fun v => ixA τ v 1 (j : Int) fun a => ld τ a (.V) K) = K v := fun {τ} L {_} K => by
    rw [f1, (B1.mono L).ld]
    simp only [asK]
    rw [show ixA τ vc 1 = ixA τ vc vIs.sz from rfl, c1 L, (c2.mono L).ld]
    simp only [asK]
  refine loopW_inv (f := S.skolemref1_Matrix.b0 p10 x (j : Int)) (x := (.nils, 0)) (σ := σ0) c.length (fun i y τ => y.2 = (i : Int) ∧ Hle σ0 τ ∧ ∃ zs, (c.take i).mapM (ren (outer ++ inner)) = some zs ∧ Acc .int σ0.next τ zs y.1)
    (fun r τ => Hle σ0 τ ∧ ((renC (outer ++ inner) c = none ∧ r = .inr (.nils, false)) ∨ ∃ zs y, renC (outer ++ inner) c = some zs ∧ r = .inl y ∧ Acc .int σ0.next τ zs y)) ?_ ?_ ⟨rfl, Hle.refl _, [], by simp, Acc.nil _ _ _⟩
  · intro i y τ hi' hI
    obtain ⟨h1', L, zs, hz, hA⟩ := hI
    obtain ⟨y, k⟩ := y
    simp only at h1'; subst h1'
    obtain ⟨a, ha⟩ : ∃ a, c[i]? = some a := ⟨_, List.getElem?_eq_getElem hi'⟩
    obtain ⟨p2, us2, d2, d3, d1⟩ := hv.ix ha
    have hd : decide ((i : Int) < (c.length : Int)) = true := decide_eq_true (by omega)
    have w2 : IntKind.i64.wrap ((i : Int) + 1) = ((i + 1 : Nat) : Int) := by rw [wrapS] <;> omega
    have hna := hn a (List.mem_of_getElem? ha)
    have hple := place_le (outer ++ inner) a.natAbs
    rw [List.length_append] at hple
    have hzl := mapM_length hz
    simp only [List.length_take] at hzl
    obtain ⟨q1, q2⟩ := mapM_take hz ha
    have wn : IntKind.i64.wrap (0 - a) = -a := by rw [wrapS] <;> omega
    unfold S.skolemref1_Matrix.b0
    rw [get L, hv.len]
    simp only [hd, cond_true, w2]
    rw [get L, show ixA τ v 1 = ixA τ v Vw.int.sz from rfl, d1 L, ld_i (d2.mono L) (Vw.int.mono L d3), wn]
    by_cases h0 : a = 0
    · subst h0
      simp only [show ((0 : Int) == -0) = true from rfl, cond_true, Option.bind_some]
      exact .inr ⟨_, τ, rfl, L, .inl ⟨q2 (by simp [ren]), rfl⟩⟩
    · have : (a == -a) = false := by have : a ≠ -a := by omega
                                     simpa using this
      simp only [this, cond_false]
      rw [(hp.mono L).ldG (n := 4) rfl, abs_eq hna]
      simp only [Option.bind_some]
      obtain ⟨τ1, e1, L1⟩ := refPlace_eq (e := e) (vc := vc) (v := (a.natAbs : Int)) (ho.mono L) (hi.mono L) h1 h2
      rw [e1]
      simp only [Option.bind_some]
      by_cases hp0 : place (outer ++ inner) a.natAbs = 0
      · rw [hp0]
        simp only [show (((0 : Nat) : Int) == 0) = true from rfl, cond_true, Option.bind_some]
        exact .inr ⟨_, τ1, rfl, L.trans L1, .inl ⟨q2 (by simp [ren, hp0]), rfl⟩⟩
      · have : (((place (outer ++ inner) a.natAbs : Nat) : Int) == 0) = false := by simpa using hp0
        simp only [this, cond_false]
        have hr : ren (outer ++ inner) a = some (if a < 0 then -(place (outer ++ inner) a.natAbs : Int) else (place (outer ++ inner) a.natAbs : Int)) := by unfold ren; rw [if_neg (by rintro (h | h); exact h0 h; exact hp0 h)]
        have hneg : (cond (decide (a < 0)) (some (IntKind.i64.wrap (0 - ((place (outer ++ inner) a.natAbs : Nat) : Int)))) (some ((place (outer ++ inner) a.natAbs : Nat) : Int))) = some (if a < 0 then -(place (outer ++ inner) a.natAbs : Int) else (place (outer ++ inner) a.natAbs : Int)) := by
          by_cases hlt : a < 0
          · rw [if_pos hlt, show decide (a < 0) = true from decide_eq_true hlt]
            simp only [cond_true]; congr 1; rw [wrapS] <;> omega
          · rw [if_neg hlt, show decide (a < 0) = false from decide_eq_false hlt]; rfl
        rw [hneg]
        simp only [Option.bind_some, newK]
        have hA1 := hA.mono L1
        obtain ⟨y', τ', a1, a2, a3, _⟩ := hA1.push (bytes := 8) (cs := [.int .i64 (if a < 0 then -(place (outer ++ inner) a.natAbs : Int) else (place (outer ++ inner) a.natAbs : Int))]) (L.trans L1) (vI_one _) (by omega) (by omega)
        have a1 : ∀ {Rt : Type} (K : AVal → Heap → Option Rt), appS (τ1.new (.cells .rw 1 [.int .i64 (if a < 0 then -(place (outer ++ inner) a.natAbs : Int) else (place (outer ++ inner) a.natAbs : Int))])) 1 8 y (.sl τ1.next 0 1 none) K = K y' τ' := a1
        rw [a1]
        simp only [Option.bind_some]
        exact .inl ⟨_, τ', rfl, rfl, a2, _, q1 _ hr, a3⟩
  · intro y τ hI
    obtain ⟨h1', L, zs, hz, hA⟩ := hI
    obtain ⟨y, k⟩ := y
    simp only at h1'; subst h1'
    rw [List.take_length] at hz
    refine ⟨.inl y, τ, ?_, L, .inr ⟨zs, y, hz, rfl, hA⟩⟩
    unfold S.skolemref1_Matrix.b0
    have hd : decide ((c.length : Int) < (c.length : Int)) = false := by simp
    rw [get L, hv.len]
    simp only [hd, cond_false]

theorem refMatrix_eq {σ : Heap} {e : Bool} {outer inner : List Int} {cs : List (List Int)} {vo vi vc : AVal} (ho : SlV .int σ outer vo) (hi : SlV .int σ inner vi) (hc : SlV vIs σ cs vc) (h1 : outer.length ≤ 1000) (h2 : inner.length ≤ 1000) (hn : ∀ c ∈ cs, Nears c ∧ c.length ≤ 100000) (h3 : cs.length ≤ 100000) :
    ∃ y τ, S.skolemref1_Matrix (.agg [.bool e, vo, vi, vc]) σ = some ((y, (matrix (outer ++ inner) cs).isSome), τ) ∧ Hle σ τ ∧ SlV vIs τ ((matrix (outer ++ inner) cs).getD []) y := by
  unfold S.skolemref1_Matrix
  simp only [aggK, newK, List.length_cons, List.length_nil, if_true]
  have A1 := At.new σ 4 [.bool e, vo, vi, vc]
  have L1 := (Hle.refl σ).new (.cells .rw 4 [.bool e, vo, vi, vc])
  generalize hσ1 : σ.new (.cells .rw 4 [.bool e, vo, vi, vc]) = σ1 at A1 L1 ⊢
  obtain ⟨q, f1, B1⟩ := A1.fld 3 (by simp)
  have B1 : At σ1 q (vc :: []) := B1
  have get : ∀ {τ : Heap}, Hle σ1 τ → ∀ {Rt : Type} (K : AVal → Option Rt), (fld (.ptr σ.next 0) 3 fun a => ld τ a (.V) K) = K vc := fun {τ} L {_} K => by
    rw [f1, (B1.mono L).ld]; simp only [asK]
  obtain ⟨r, τ, e1, L, hr⟩ := loopW_inv (f := S.skolemref1_Matrix.b1 (.ptr σ.next 0)) (x := (.nils, 0)) (σ := σ1) cs.length (fun i y τ => y.2 = (i : Int) ∧ Hle σ1 τ ∧ ∃ zs, (cs.take i).mapM (renC (outer ++ inner)) = some zs ∧ Acc vIs σ1.next τ zs y.1)
    (fun r τ => Hle σ1 τ ∧ ((matrix (outer ++ inner) cs = none ∧ r = .inr (.nils, false)) ∨ ∃ zs y, matrix (outer ++ inner) cs = some zs ∧ r = .inl y ∧ Acc vIs σ1.next τ zs y))
    (fun i y τ hi' hI => by
      obtain ⟨h1', L, zs, hz, hA⟩ := hI
      obtain ⟨y, j⟩ := y
      simp only at h1'; subst h1'
      obtain ⟨a, ha⟩ : ∃ a, cs[i]? = some a := ⟨_, List.getElem?_eq_getElem hi'⟩
      have hd : decide ((i : Int) < (cs.length : Int)) = true := decide_eq_true (by omega)
      have w2 : IntKind.i64.wrap ((i : Int) + 1) = ((i + 1 : Nat) : Int) := by rw [wrapS] <;> omega
      obtain ⟨hna, hnl⟩ := hn a (List.mem_of_getElem? ha)
      have hzl := mapM_length hz
      simp only [List.length_take] at hzl
      obtain ⟨q1, q2⟩ := mapM_take hz ha
      unfold S.skolemref1_Matrix.b1
      rw [get L, hc.len]
      simp only [hd, cond_true, w2]
      have L01 := L1.trans L
      obtain ⟨r, τ2, e2, L2, hr⟩ := refMatrix_b0 (x := y) (A1.mono L) (ho.mono L01) (hi.mono L01) (hc.mono L01) h1 h2 ha hna hnl
      rw [e2]
      simp only [Option.bind_some]
      rcases hr with ⟨hr1, rfl⟩ | ⟨zc, yc, hr1, rfl, hAc⟩
      · exact .inr ⟨_, τ2, rfl, L.trans L2, .inl ⟨q2 hr1, rfl⟩⟩
      · simp only []
        rw [hAc.sl.scal]
        simp only [newK]
        have hA1 := hA.mono L2
        obtain ⟨y', τ', a1, a2, a3, _⟩ := hA1.push (bytes := 24) (cs := [yc]) (L.trans L2) (vIs_one (hAc.sl_out Vw.int_flat hA (Nat.le_refl _))) (by omega) (by omega)
        have a1 : ∀ {Rt : Type} (K : AVal → Heap → Option Rt), appS (τ2.new (.cells .rw 1 [yc])) 1 24 y (.sl τ2.next 0 1 none) K = K y' τ' := a1
        rw [a1]
        exact .inl ⟨_, τ', rfl, rfl, a2, _, q1 _ hr1, a3⟩)
    (fun y τ hI => by
      obtain ⟨h1', L, zs, hz, hA⟩ := hI
      obtain ⟨y, j⟩ := y
      simp only at h1'; subst h1'
      rw [List.take_length] at hz
      refine ⟨.inl y, τ, ?_, L, .inr ⟨zs, y, hz, rfl, hA⟩⟩
      unfold S.skolemref1_Matrix.b1
      have hd : decide ((cs.length : Int) < (cs.length : Int)) = false := by simp
      rw [get L, hc.len]
      simp only [hd, cond_false]) ⟨rfl, Hle.refl _, [], by simp, Acc.nil _ _ _⟩
  rw [e1]
  simp only [Option.bind_some]
  rcases hr with ⟨hr1, rfl⟩ | ⟨zs, y, hr1, rfl, hA⟩
  · rw [hr1]; exact ⟨_, τ, rfl, L1.trans L, SlV.nil _ _⟩
  · rw [hr1]; exact ⟨_, τ, rfl, L1.trans L, hA.sl⟩

theorem sameClauses_eq {σ : Heap} {xs ys : List (List Int)} {x y : AVal} (hx : SlV vIs σ xs x) (hy : SlV vIs σ ys y) (hb : xs.length ≤ 1000000) (hs : ∀ a ∈ xs, a.length ≤ 1000000) :
    S.skolemref_SameClauses x y σ = some (decide (xs = ys)) := by
  unfold S.skolemref_SameClauses
  rw [hx.len, hy.len]
  by_cases hl : xs.length = ys.length
  · have hc : ((xs.length : Int) != (ys.length : Int)) = false := by simp [hl]
    rw [hc]
    simp only [cond_false]
    obtain ⟨r, e1, e2⟩ := loopP_inv (f := S.skolemref_SameClauses.b0 x y σ) (x := (0 : Int)) xs.length (fun i z => z = (i : Int) ∧ ∀ j, j < i → xs[j]? = ys[j]?) (fun r => ((r = .inl () ∧ xs = ys) ∨ (r = .inr false ∧ xs ≠ ys)))
      (fun i z hi hI => by
        obtain ⟨rfl, hI⟩ := hI
        obtain ⟨a, ha⟩ : ∃ a, xs[i]? = some a := ⟨_, List.getElem?_eq_getElem hi⟩
        obtain ⟨b, hb⟩ : ∃ b, ys[i]? = some b := ⟨_, List.getElem?_eq_getElem (by omega)⟩
        obtain ⟨p, us, c2, ⟨u, rfl, c3⟩, c1⟩ := hx.ix ha
        obtain ⟨q, ws, d2, ⟨w, rfl, d3⟩, d1⟩ := hy.ix hb
        have hd : decide ((i : Int) < (xs.length : Int)) = true := by simp; omega
        have w2 : IntKind.i64.wrap ((i : Int) + 1) = ((i + 1 : Nat) : Int) := by rw [wrapS] <;> omega
        have key : S.skolemref_SameClauses.b0 x y σ (i : Int) = cond (!(decide (a = b))) (some (.inr (.inr false))) (some (.inl ((i + 1 : Nat) : Int))) := by
          unfold S.skolemref_SameClauses.b0
          rw [hx.len, hd]
          simp only [cond_true]
          rw [show ixA σ x 1 = ixA σ x vIs.sz from rfl, show ixA σ y 1 = ixA σ y vIs.sz from rfl, c1 (Hle.refl _), c2.ld]
          simp only [asK]
          rw [d1 (Hle.refl _), d2.ld]
          simp only [asK]
          rw [sameInts_eq c3 d3 (hs a (List.mem_of_getElem? ha)), w2]
          rfl
        rw [key]
        by_cases hab : a = b
        · subst hab
          refine .inl ⟨_, by simp, rfl, fun j hj => ?_⟩
          rcases Nat.lt_succ_iff_lt_or_eq.1 hj with hj | rfl
          · exact hI j hj
          · rw [ha, hb]
        · refine .inr ⟨.inr false, by simp [hab], .inr ⟨rfl, fun e => ?_⟩⟩
          subst e; rw [ha] at hb; cases hb; exact hab rfl)
      (fun z hI => by
        obtain ⟨rfl, hI⟩ := hI
        refine ⟨.inl (), ?_, .inl ⟨rfl, ?_⟩⟩
        · unfold S.skolemref_SameClauses.b0
          have hd : decide ((xs.length : Int) < (xs.length : Int)) = false := by simp
          rw [hx.len, hd]; rfl
        · apply List.ext_getElem? fun j => ?_
          by_cases hj : j < xs.length
          · exact hI j hj
          · rw [List.getElem?_eq_none (by omega), List.getElem?_eq_none (by omega)]) ⟨rfl, fun j hj => by omega⟩
    rw [e1]
    simp only [Option.bind_some]
    rcases e2 with ⟨rfl, e⟩ | ⟨rfl, e⟩
    · simp [e]
    · simp [e]
  · have hc : ((xs.length : Int) != (ys.length : Int)) = true := by simp; omega
    rw [hc]
    have : xs ≠ ys := fun e => hl (by rw [e])
    simp [this]

/-! ### guards -/
theorem near_eq {σ : Heap} {xs : List Int} {x : AVal} (hx : SlV .int σ xs x) (hb : xs.length ≤ 4611686018427387904) : ∃ b, S.skolemmake_Near x σ = some b ∧ (b = true → ∀ l ∈ xs, -1152921504606846976 ≤ l) := by
  unfold S.skolemmake_Near
  obtain ⟨r, e1, hr⟩ := loopP_inv (f := S.skolemmake_Near.b0 x σ) (x := (0 : Int)) xs.length (fun i z => z = (i : Int) ∧ ∀ j l, j < i → xs[j]? = some l → -1152921504606846976 ≤ l) (fun r => r = .inr false ∨ (r = .inl () ∧ ∀ l ∈ xs, -1152921504606846976 ≤ l))
    (fun i z hi hI => by
      obtain ⟨rfl, hI⟩ := hI
      obtain ⟨a, ha⟩ : ∃ a, xs[i]? = some a := ⟨_, List.getElem?_eq_getElem hi⟩
      obtain ⟨p, us, c2, c3, c1⟩ := hx.ix ha
      have hd : decide ((i : Int) < (xs.length : Int)) = true := decide_eq_true (by omega)
      have w2 : IntKind.i64.wrap ((i : Int) + 1) = ((i + 1 : Nat) : Int) := by rw [wrapS] <;> omega
      unfold S.skolemmake_Near.b0
      rw [hx.len]
      simp only [hd, cond_true, w2]
      rw [show ixA σ x 1 = ixA σ x Vw.int.sz from rfl, c1 (Hle.refl _), ld_i c2 c3]
      by_cases h : a < -1152921504606846976
      · rw [show decide (a < -1152921504606846976) = true from decide_eq_true h]
        exact .inr ⟨_, rfl, .inl rfl⟩
      · rw [show decide (a < -1152921504606846976) = false from decide_eq_false h]
        refine .inl ⟨_, rfl, rfl, fun j l hj hl => ?_⟩
        rcases Nat.lt_succ_iff_lt_or_eq.1 hj with hj | rfl
        · exact hI j l hj hl
        · rw [ha] at hl; cases hl; omega)
    (fun z hI => by
      obtain ⟨rfl, hI⟩ := hI
      refine ⟨.inl (), ?_, .inr ⟨rfl, fun l hl => ?_⟩⟩
      · unfold S.skolemmake_Near.b0
        have hd : decide ((xs.length : Int) < (xs.length : Int)) = false := by simp
        rw [hx.len, hd]; rfl
      · obtain ⟨j, hj, e⟩ := List.getElem_of_mem hl
        exact hI j l hj (by rw [List.getElem?_eq_getElem hj, e])) ⟨rfl, fun j l hj => by omega⟩
  rw [e1]
  rcases hr with rfl | ⟨rfl, h⟩
  · exact ⟨false, rfl, fun h => by cases h⟩
  · exact ⟨true, rfl, fun _ => h⟩
theorem nearAll_eq {σ : Heap} {xs : List (List Int)} {x : AVal} (hx : SlV vIs σ xs x) (hb : xs.length ≤ 4611686018427387904) (hs : ∀ c ∈ xs, c.length ≤ 4611686018427387904) : ∃ b, S.skolemmake_NearAll x σ = some b ∧ (b = true → ∀ c ∈ xs, ∀ l ∈ c, -1152921504606846976 ≤ l) := by
  unfold S.skolemmake_NearAll
  obtain ⟨r, e1, hr⟩ := loopP_inv (f := S.skolemmake_NearAll.b0 x σ) (x := (0 : Int)) xs.length (fun i z => z = (i : Int) ∧ ∀ j c, j < i → xs[j]? = some c → ∀ l ∈ c, -1152921504606846976 ≤ l) (fun r => r = .inr false ∨ (r = .inl () ∧ ∀ c ∈ xs, ∀ l ∈ c, -1152921504606846976 ≤ l))
    (fun i z hi hI => by
      obtain ⟨rfl, hI⟩ := hI
      obtain ⟨a, ha⟩ : ∃ a, xs[i]? = some a := ⟨_, List.getElem?_eq_getElem hi⟩
      obtain ⟨p, us, c2, ⟨u, rfl, c3⟩, c1⟩ := hx.ix ha
      have hd : decide ((i : Int) < (xs.length : Int)) = true := decide_eq_true (by omega)
      have w2 : IntKind.i64.wrap ((i : Int) + 1) = ((i + 1 : Nat) : Int) := by rw [wrapS] <;> omega
      obtain ⟨b, hb1, hb2⟩ := near_eq c3 (hs a (List.mem_of_getElem? ha))
      unfold S.skolemmake_NearAll.b0
      rw [hx.len]
      simp only [hd, cond_true, w2]
      rw [show ixA σ x 1 = ixA σ x vIs.sz from rfl, c1 (Hle.refl _), c2.ld]
      simp only [asK]
      rw [hb1]
      cases b with
      | false => exact .inr ⟨_, rfl, .inl rfl⟩
      | true =>
        refine .inl ⟨_, rfl, rfl, fun j c hj hc => ?_⟩
        rcases Nat.lt_succ_iff_lt_or_eq.1 hj with hj | rfl
        · exact hI j c hj hc
        · rw [ha] at hc; cases hc; exact hb2 rfl)
    (fun z hI => by
      obtain ⟨rfl, hI⟩ := hI
      refine ⟨.inl (), ?_, .inr ⟨rfl, fun c hc => ?_⟩⟩
      · unfold S.skolemmake_NearAll.b0
        have hd : decide ((xs.length : Int) < (xs.length : Int)) = false := by simp
        rw [hx.len, hd]; rfl
      · obtain ⟨j, hj, e⟩ := List.getElem_of_mem hc
        exact hI j c hj (by rw [List.getElem?_eq_getElem hj, e])) ⟨rfl, fun j c hj => by omega⟩
  rw [e1]
  rcases hr with rfl | ⟨rfl, h⟩
  · exact ⟨false, rfl, fun h => by cases h⟩
  · exact ⟨true, rfl, fun _ => h⟩
/-- Clauses are few: each is short enough, or the count is more than it may be. -/
theorem count_eq {σ : Heap} {xs : List (List Int)} {x : AVal} (hx : SlV vIs σ xs x) (hb : xs.length ≤ 60) (hs : ∀ c ∈ xs, c.length ≤ 4611686018427387904 / 64) : S.skolemmake_Count x σ = some ((xs.flatten.length : Nat) : Int) := by
  have hfl : ∀ (l : List (List Int)), (∀ c ∈ l, c.length ≤ 4611686018427387904 / 64) → l.flatten.length ≤ l.length * (4611686018427387904 / 64) := by
    intro l
    induction l with
    | nil => intro _; simp
    | cons c l ih => intro h; have := ih fun c hc => h c (List.mem_cons_of_mem _ hc); have := h c List.mem_cons_self; rw [List.flatten_cons, List.length_append, List.length_cons]; omega
  unfold S.skolemmake_Count
  obtain ⟨r, e1, rfl⟩ := loopP_inv (f := S.skolemmake_Count.b0 x σ) (x := ((0 : Int), (0 : Int))) xs.length (fun i z => z = ((((xs.take i).flatten.length : Nat) : Int), (i : Int))) (fun r => r = ((xs.flatten.length : Nat) : Int))
    (fun i z hi hI => by
      subst hI
      obtain ⟨a, ha⟩ : ∃ a, xs[i]? = some a := ⟨_, List.getElem?_eq_getElem hi⟩
      obtain ⟨p, us, c2, ⟨u, rfl, c3⟩, c1⟩ := hx.ix ha
      have hd : decide ((i : Int) < (xs.length : Int)) = true := decide_eq_true (by omega)
      have w2 : IntKind.i64.wrap ((i : Int) + 1) = ((i + 1 : Nat) : Int) := by rw [wrapS] <;> omega
      have h5 := hfl (xs.take (i + 1)) (fun c hc => hs c (List.mem_of_mem_take hc))
      have h6 : (xs.take (i + 1)).length ≤ 60 := Nat.le_trans (List.length_take_le' ..) hb
      have h7 : (xs.take (i + 1)).flatten.length ≤ 60 * (4611686018427387904 / 64) := Nat.le_trans h5 (Nat.mul_le_mul_right _ h6)
      have w3 : IntKind.i64.wrap ((((xs.take i).flatten.length : Nat) : Int) + (a.length : Int)) = (((xs.take (i + 1)).flatten.length : Nat) : Int) := by
        rw [take_succ_flat ha, List.length_append] at h7 ⊢
        rw [wrapS] <;> omega
      refine .inl ⟨_, ?_, rfl⟩
      unfold S.skolemmake_Count.b0
      rw [hx.len]
      simp only [hd, cond_true, w2]
      rw [show ixA σ x 1 = ixA σ x vIs.sz from rfl, c1 (Hle.refl _), c2.ld]
      simp only [asK]
      rw [c3.len, w3])
    (fun z hI => by
      subst hI
      rw [List.take_length]
      refine ⟨_, ?_, rfl⟩
      unfold S.skolemmake_Count.b0
      have hd : decide ((xs.length : Int) < (xs.length : Int)) = false := by simp
      rw [hx.len]; simp only [hd, cond_false]) (by simp)
  rw [e1]; rfl
end Go.Proofs.YtgneblbblihaoaaDoor.A
