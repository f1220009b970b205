/- Parts of the proof, one behind another. -/
import Derived.Test.YtgneblbblihaoaaGreatDoorX9
set_option linter.all false
/- The document's base of clauses. -/
namespace Go.Proofs.YtgneblbblihaoaaGreatDoor.A
open Go
theorem before_eq {σ : Heap} {a b : Int} (ha : inB a = true) (hb : inB b = true) : S.skolemref1_before a b σ = some (decide (a.natAbs < b.natAbs ∨ (a.natAbs = b.natAbs ∧ a < b))) := by
  simp only [inB, Bool.and_eq_true, decide_eq_true_eq] at ha hb
  unfold S.skolemref1_before
  rw [abs_eq ⟨by omega, by omega⟩, abs_eq ⟨by omega, by omega⟩]
  simp only [Option.bind_some]
  by_cases h1 : a.natAbs < b.natAbs
  · have : decide ((a.natAbs : Int) < (b.natAbs : Int)) = true := decide_eq_true (by omega)
    rw [this]; simp [h1]
  · have : decide ((a.natAbs : Int) < (b.natAbs : Int)) = false := decide_eq_false (by omega)
    rw [this]
    by_cases h2 : a.natAbs = b.natAbs
    · simp [h2]
    · have : (((a.natAbs : Nat) : Int) == ((b.natAbs : Nat) : Int)) = false := by simp; omega
      simp only [cond_false, this, Option.bind_some]
      simp [h1, h2]
theorem ins_strict {xs : List Int} {k : Nat} {a : Int} (hs : xs.Pairwise ltL) (hk : k ≤ xs.length) (h1 : ∀ j b, j < k → xs[j]? = some b → ltL b a) (h2 : ∀ b, xs[k]? = some b → ¬ ltL b a) (hn : a ∉ xs) : (xs.take k ++ [a] ++ xs.drop k).Pairwise ltL := by
  have hd : ∀ b ∈ xs.drop k, ltL a b := fun b hb => by
    obtain ⟨c, hc⟩ : ∃ c, xs[k]? = some c := by
      obtain ⟨j, hj, _⟩ := List.getElem_of_mem hb
      exact ⟨_, List.getElem?_eq_getElem (by simp at hj; omega)⟩
    have h3 := h2 c hc
    have hca : c ≠ a := fun e => hn (e ▸ List.mem_of_getElem? hc)
    have h4 : ltL a c := by unfold ltL at h3 ⊢; omega
    rw [drop_at hc] at hb
    rcases List.mem_cons.1 hb with rfl | hb
    · exact h4
    · have h5 : (xs.drop k).Pairwise ltL := hs.sublist (List.drop_sublist ..)
      rw [drop_at hc] at h5
      have h6 := (List.pairwise_cons.1 h5).1 b hb
      unfold ltL at h4 h6 ⊢; omega
  have ht : ∀ b ∈ xs.take k, ltL b a := fun b hb => by
    obtain ⟨j, hj, e⟩ := List.getElem_of_mem hb
    simp at hj e
    exact h1 j b (by omega) (by rw [List.getElem?_eq_getElem (by omega), e])
  rw [List.append_assoc, List.pairwise_append]
  refine ⟨hs.sublist (List.take_sublist ..), ?_, fun x hx y hy => ?_⟩
  · rw [List.singleton_append, List.pairwise_cons]
    exact ⟨hd, hs.sublist (List.drop_sublist ..)⟩
  · rcases List.mem_append.1 hy with hy | hy
    · rw [List.mem_singleton.1 hy]; exact ht x hx
    · have h3 := ht x hx
      have h4 := hd y hy
      unfold ltL at h3 h4 ⊢; omega
theorem refNorm_w {σ : Heap} {c : List Int} {x : AVal} (hx : SlV .int σ c x) (hin : c.all inB = true) (hl : c.length ≤ 1000000) : W (S.skolemref1_Norm x σ) fun r => Hle σ r.2 ∧ SlV .int r.2 (normL c) r.1.1 := by
  have hinb : ∀ a ∈ c, inB a = true := List.all_eq_true.1 hin
  unfold S.skolemref1_Norm
  refine W.bind ?_
  refine W.loop c.length (fun i (y : AVal × Bool × Int) τ => y.2.2 = (i : Int) ∧ Hle σ τ ∧ ∃ out, SlV .int τ out y.1 ∧ out.Pairwise ltL ∧ (∀ v, v ∈ out ↔ v ∈ c.take i) ∧ out.length ≤ i) ⟨rfl, Hle.refl _, [], SlV.nil _ _, List.Pairwise.nil, by simp, by simp⟩ fun i y τ hi hI => ?_
  obtain ⟨y, says, j⟩ := y
  obtain ⟨rfl, L, out, hO, hs, hm, hol⟩ := hI
  dsimp only at hO
  have hx' := hx.mono L
  unfold S.skolemref1_Norm.b1
  dsimp only
  repeat' (with_reducible refine W.len (by assumption) ?_)
  (with_reducible refine W.cnd (fun hc => ?_) (fun hc => ?_) <;> (try simp only [q1, q2, q3, q4, q5, q6, q7, q8, q9, q10, q11, q12, q13, q14, q15, q16, q17, q18, q19, q20, q21, q22, q23, q24, q25, q26, q27, q28, q29, q30, Kd.ty] at hc) <;> (try (exfalso; omega)))
  · obtain ⟨a, ha⟩ : ∃ a, c[i]? = some a := ⟨_, List.getElem?_eq_getElem (by omega)⟩
    have hia := hinb a (List.mem_of_getElem? ha)
    have ht : c.take (i + 1) = c.take i ++ [a] := by rw [List.take_add_one, ha]; rfl
    have hob : ∀ v ∈ out, inB v = true := fun v hv => hinb v (List.mem_of_mem_take ((hm v).1 hv))
    repeat' (with_reducible (first | refine W.bind ?_ | refine W.ixIc (by assumption) (by assumption) ?_))
    refine W.to (has_eq hO (by omega)) ?_
    repeat' (with_reducible refine W.ret ?_)
    (with_reducible refine W.cnd (fun hq => ?_) (fun hq => ?_) <;> (try simp only [q1, q2, q3, q4, q5, q6, q7, q8, q9, q10, q11, q12, q13, q14, q15, q16, q17, q18, q19, q20, q21, q22, q23, q24, q25, q26, q27, q28, q29, q30, Kd.ty] at hq) <;> (try (exfalso; omega)))
    · repeat' (with_reducible (first | refine W.next ?_ | refine W.ret ?_))
      refine ⟨by omega, sk, L, out, hO, hs, fun v => ?_, by omega⟩
      rw [ht, List.mem_append, ← hm v, List.mem_singleton]
      exact ⟨.inl, fun h => h.elim id fun e => by rw [e]; exact hq⟩
    · refine W.bind ?_
      refine W.mono (P := fun k => ∃ k' : Nat, k = (k' : Int) ∧ k' ≤ out.length ∧ (∀ j b, j < k' → out[j]? = some b → ltL b a) ∧ ∀ b, out[k']? = some b → ¬ ltL b a) ?_ fun k hk => ?_
      · refine W.loopP out.length (fun m (z : Int) => z = (m : Int) ∧ ∀ j b, j < m → out[j]? = some b → ltL b a) ⟨rfl, fun j b hj => by omega⟩ fun m z hm' hJ => ?_
        obtain ⟨rfl, hJ⟩ := hJ
        unfold S.skolemref1_Norm.b0
        repeat' (with_reducible (first | refine W.bind ?_ | refine W.len (by assumption) ?_))
        (with_reducible refine W.cnd (fun hlt => ?_) (fun hlt => ?_) <;> (try simp only [q1, q2, q3, q4, q5, q6, q7, q8, q9, q10, q11, q12, q13, q14, q15, q16, q17, q18, q19, q20, q21, q22, q23, q24, q25, q26, q27, q28, q29, q30, Kd.ty] at hlt) <;> (try (exfalso; omega)))
        · obtain ⟨b, hb⟩ : ∃ b, out[m]? = some b := ⟨_, List.getElem?_eq_getElem (by omega)⟩
          repeat' (with_reducible (first | refine W.bind ?_ | refine W.ixIc (by assumption) (by assumption) ?_))
          refine W.to (before_eq (hob b (List.mem_of_getElem? hb)) hia) ?_
          repeat' (with_reducible refine W.ret ?_)
          (with_reducible refine W.cnd (fun hbf => ?_) (fun hbf => ?_) <;> (try simp only [q1, q2, q3, q4, q5, q6, q7, q8, q9, q10, q11, q12, q13, q14, q15, q16, q17, q18, q19, q20, q21, q22, q23, q24, q25, q26, q27, q28, q29, q30, Kd.ty] at hbf) <;> (try (exfalso; omega)))
          · repeat' (with_reducible refine W.nextP ?_)
            refine ⟨by omega, sk, fun j d hj hd => ?_⟩
            by_cases e : j = m
            · subst e; rw [hb] at hd; cases hd; exact hbf
            · exact hJ j d (by omega) hd
          · repeat' (with_reducible refine W.stopP ?_)
            refine ⟨m, rfl, by omega, hJ, fun d hd => ?_⟩
            rw [hb] at hd; cases hd; exact hbf
        · repeat' (with_reducible refine W.ret ?_)
          refine W.condF rfl ?_
          repeat' (with_reducible refine W.stopP ?_)
          refine ⟨m, rfl, by omega, hJ, fun d hd => ?_⟩
          have := (List.getElem?_eq_some_iff.1 hd).1
          omega
      · obtain ⟨k', rfl, hk1, hk2, hk3⟩ := hk
        refine W.call (P := fun _ => True) ?_ fun sy _ => ?_
        · cases says
          · refine W.condF rfl ?_
            exact W.ret trivial
          · refine W.condT rfl ?_
            repeat' (with_reducible (first | refine W.bind ?_ | refine W.ixIc (by assumption) (by assumption) ?_))
            refine W.to (has_eq hO (by omega)) ?_
            repeat' (with_reducible refine W.ret ?_)
            trivial
        · obtain ⟨y1, e1, hy1⟩ := hO.slice (lo := 0) (hi := k') (by omega) hk1
          obtain ⟨y2, e2, hy2⟩ := hO.slice (lo := k') (hi := out.length) hk1 (Nat.le_refl _)
          rw [List.drop_zero] at hy1
          rw [List.take_length] at hy2
          refine W.to ((e1 (Hle.refl _) _).1) ?_
          refine W.bind ?_
          refine W.mono (ints_w hy1 (by simp; omega)) fun r hr => ?_
          obtain ⟨z, τ2⟩ := r
          obtain ⟨hZ, L2⟩ := hr
          dsimp only at hZ L2 ⊢
          have hx2 := hx'.mono L2
          refine W.ixO hx2 (by omega) ?_
          refine W.ixO hx' (by omega) ?_
          refine W.chk rfl ?_
          refine W.ldOI hx2 ha ?_
          refine W.ldOI hx' ha ?_
          refine W.chk rfl ?_
          refine W.pushI hZ L2 (by simp; omega) (by simp; omega) fun z2 τ3 L3 hZ3 _ => ?_
          refine W.to ((e2 L3 _).2 rfl) ?_
          refine W.app (bytes := 8) hZ3 L3 (hy2.mono (hZ3.out_le L3)) (by simp; omega) (by simp; omega) fun z4 τ4 L4 hZ4 _ => ?_
          repeat' (with_reducible (first | refine W.next ?_ | refine W.ret ?_))
          refine ⟨by omega, sk, L.trans L4, _, hZ4.sl, ins_strict hs hk1 hk2 hk3 hq, fun v => ?_, by simp; omega⟩
          rw [ht]
          have h5 : v ∈ out ↔ v ∈ out.take k' ∨ v ∈ out.drop k' := by rw [← List.mem_append, List.take_append_drop]
          simp only [List.mem_append, List.mem_singleton, ← hm v]
          rw [h5]
          constructor
          · rintro ((h | h) | h)
            · exact .inl (.inl h)
            · exact .inr h
            · exact .inl (.inr h)
          · rintro ((h | h) | h)
            · exact .inl (.inl h)
            · exact .inr h
            · exact .inl (.inr h)
  · repeat' (with_reducible (first | refine W.stop ?_ | refine W.ret ?_))
    rw [List.take_of_length_le (by omega)] at hm
    have : out = normL c := strict_ext hs (normL_strict c) fun v => by rw [hm, normL_mem]
    rw [← this]
    exact ⟨L, hO⟩
theorem refSame_w {σ : Heap} {a b : List Int} {x y : AVal} (hx : SlV .int σ a x) (hy : SlV .int σ b y) (ha : a.all inB = true) (hb : b.all inB = true) (hla : a.length ≤ 1000000) (hlb : b.length ≤ 1000000) : W (S.skolemref1_SameClause x y σ) fun r => Hle σ r.2 ∧ r.1 = decide (normL a = normL b) := by
  unfold S.skolemref1_SameClause
  refine W.bind ?_
  refine W.mono (refNorm_w hx ha hla) fun r hr => ?_
  obtain ⟨⟨u, _⟩, τ⟩ := r
  obtain ⟨L, hu⟩ := hr
  dsimp only at L hu ⊢
  refine W.bind ?_
  refine W.mono (refNorm_w (hy.mono L) hb hlb) fun r hr => ?_
  obtain ⟨⟨w, _⟩, τ2⟩ := r
  obtain ⟨L2, hw⟩ := hr
  dsimp only at L2 hw ⊢
  have hnl := normL_len a
  refine W.bind ?_
  refine W.to (sameInts_eq (hu.mono L2) hw (by omega)) ?_
  repeat' (with_reducible refine W.ret ?_)
  exact ⟨L.trans L2, rfl⟩

/-! ### The base -/
structure RB (σ : Heap) (T : Tg) (l vars : Nat) (C : List (List Int)) : Prop where
  ex : ∃ v ws, Loc (σ.at T 1) l [.int .i64 vars, v] ∧ SlV vRaw (σ.at T 0) ws v ∧ AllV σ T C ws
  ok : ∀ c ∈ C, rightC vars c
  vl : vars ≤ 4000
  cl : C.length ≤ 900000
  ll : ∀ c ∈ C, c.length ≤ 400000
section
variable {σ τ : Heap} {T T' : Tg} {l vars : Nat} {C : List (List Int)} {c : List Int} {x : AVal}
theorem RB.hle (h : RB σ T l vars C) (L : Hle σ τ) : RB τ T l vars C := by
  obtain ⟨⟨v, ws, h1, h2, h3⟩, a, b, d, e⟩ := h
  exact ⟨⟨v, ws, h1.hle L, h2.hle L, h3.hle L⟩, a, b, d, e⟩
theorem RB.hop {I : Nat → Bool} (h : RB σ T l vars C) (H : Hop I σ T τ T') (h0 : I 0 = false := by rfl) (h1 : I 1 = false := by rfl) : RB τ T' l vars C := by
  obtain ⟨⟨v, ws, k1, k2, k3⟩, a, b, d, e⟩ := h
  exact ⟨⟨v, ws, k1.hop H h1, k2.hop H h0, k3.hop H h0⟩, a, b, d, e⟩
theorem AllV.at {ws : List AVal} {v : AVal} (h : AllV σ T C ws) (hv : SlV vRaw (σ.at T 0) ws v) : SlV A.vIs (σ.at T 0) C v := slIs_of hv h.1 h.2
theorem Acc.at0F {α : Type} {v : Vw α} {n0 : Nat} {xs : List α} {y : AVal} (hf : v.Flat) (h : Acc v n0 τ xs y) (hT : ∀ k, n0 ≤ k → T k = 0) : SlV v (τ.at T 0) xs y := by
  rcases h with ⟨rfl, rfl⟩ | ⟨l, cs, rfl, h1, h2, h3, h4, h5⟩
  · exact .inl ⟨rfl, rfl⟩
  · exact .inr ⟨l, 0, none, .rw, cs, rfl, h2, at_of (hT l h1) h3, by simpa using h4, fun i a ha => by
      have := h5 i a ha
      rw [Nat.zero_add]; exact hf _ _ _ _ this⟩
theorem AllV.scal {ws : List AVal} (h : AllV σ T C ws) : ∀ w ∈ ws, ∀ {R : Type} (X : Option R), A.scal w X = X := fun w hw R X => by
  obtain ⟨i, hi, e⟩ := List.getElem_of_mem hw
  obtain ⟨c, hc⟩ : ∃ c, C[i]? = some c := ⟨_, List.getElem?_eq_getElem (by rw [← h.1]; exact hi)⟩
  obtain ⟨w', h1, h2⟩ := h.2 i c hc
  rw [List.getElem?_eq_getElem hi, e] at h1
  cases h1
  exact h2.scal X
theorem refClauses_w {ws : List AVal} (hx : SlV vRaw σ ws x) (hl : ws.length ≤ 1000000) (hs : ∀ w ∈ ws, ∀ {R : Type} (X : Option R), A.scal w X = X) : W (S.skolemref_Clauses x σ) fun r => Hle σ r.2 ∧ Acc vRaw σ.next r.2 ws r.1 := by
  unfold S.skolemref_Clauses
  repeat' (with_reducible refine W.len (by assumption) ?_)
  refine W.mk0 vRaw (by omega) (by omega) fun y τ L hA => ?_
  refine W.bind ?_
  refine W.loop ws.length (fun i (z : AVal × Int) τ' => z.2 = (i : Int) ∧ Hle σ τ' ∧ Acc vRaw σ.next τ' (ws.take i) z.1) ⟨rfl, L, by simpa using hA⟩ fun i z τ' hi hI => ?_
  obtain ⟨z, j⟩ := z
  obtain ⟨rfl, L', hA⟩ := hI
  dsimp only at hA ⊢
  have hx' := hx.mono L'
  unfold S.skolemref_Clauses.b0
  repeat' (with_reducible refine W.len (by assumption) ?_)
  (with_reducible refine W.cnd (fun hc => ?_) (fun hc => ?_) <;> (try simp only [q1, q2, q3, q4, q5, q6, q7, q8, q9, q10, q11, q12, q13, q14, q15, q16, q17, q18, q19, q20, q21, q22, q23, q24, q25, q26, q27, q28, q29, q30, Kd.ty] at hc) <;> (try (exfalso; omega)))
  · obtain ⟨w, hw⟩ : ∃ w, ws[i]? = some w := ⟨_, List.getElem?_eq_getElem (by omega)⟩
    refine W.ixV hx' hw ?_
    refine W.to (hs w (List.mem_of_getElem? hw) _) ?_
    refine W.push (bytes := 24) hA L' (a := w) (cs := [w]) rfl (by simp; omega) (by simp; omega) fun x2 τ2 L2 hA2 _ => ?_
    repeat' (with_reducible refine W.next ?_)
    refine ⟨by omega, sk, L2, ?_⟩
    rw [List.take_add_one, hw]; exact hA2
  · repeat' (with_reducible (first | refine W.stop ?_ | refine W.ret ?_))
    rw [List.take_of_length_le (by omega)] at hA
    exact ⟨L', hA⟩
theorem refRight_w {c0 : AVal} (h : Loc σ l [.int .i64 vars, c0]) (hv : vars ≤ 4000) (hx : SlV .int σ c x) (hl : c.length ≤ 1000000000) : W (S.skolemref20_Base_right (.ptr l 0) x σ) fun r => (r = true ↔ rightC vars c) := by
  unfold S.skolemref20_Base_right
  repeat' (with_reducible refine W.bind ?_)
  refine W.loopP c.length (fun i y => y = (i : Int) ∧ rightC vars (c.take i)) ⟨rfl, by simp [rightC]⟩ fun i y hi hI => ?_
  obtain ⟨rfl, hI⟩ := hI
  unfold S.skolemref20_Base_right.b0
  repeat' (with_reducible refine W.len (by assumption) ?_)
  (with_reducible refine W.cnd (fun hc => ?_) (fun hc => ?_) <;> (try simp only [q1, q2, q3, q4, q5, q6, q7, q8, q9, q10, q11, q12, q13, q14, q15, q16, q17, q18, q19, q20, q21, q22, q23, q24, q25, q26, q27, q28, q29, q30, Kd.ty] at hc) <;> (try (exfalso; omega)))
  · obtain ⟨a, ha⟩ : ∃ a, c[i]? = some a := ⟨_, List.getElem?_eq_getElem (by omega)⟩
    repeat' (with_reducible (first | refine W.bind ?_ | refine W.asI ?_ | refine W.fldp ?_ | refine W.ldL (by assumption) (by with_unfolding_all rfl) ?_ | refine W.ixIc (by assumption) (by assumption) ?_ | refine W.nck ?_))
    refine W.to (refIs_eq (by omega) (by omega)) ?_
    repeat' (with_reducible refine W.ret ?_)
    (with_reducible refine W.cnd (fun hq => ?_) (fun hq => ?_) <;> (try simp only [q1, q2, q3, q4, q5, q6, q7, q8, q9, q10, q11, q12, q13, q14, q15, q16, q17, q18, q19, q20, q21, q22, q23, q24, q25, q26, q27, q28, q29, q30, Kd.ty] at hq) <;> (try (exfalso; omega)))
    · repeat' (with_reducible (first | refine W.stopP ?_ | refine W.ret ?_))
      simp only [Bool.false_eq_true, false_iff]
      intro hR
      have := isL_iff.2 (hR a (List.mem_of_getElem? ha))
      rw [this] at hq; cases hq
    · repeat' (with_reducible refine W.nextP ?_)
      refine ⟨by omega, sk, fun k hk => ?_⟩
      rw [List.take_add_one, ha] at hk
      rcases List.mem_append.1 hk with hk | hk
      · exact hI k hk
      · have e : k = a := by simpa using hk
        rw [e]; exact isL_iff.1 hq
  · repeat' (with_reducible (first | refine W.stopP ?_ | refine W.ret ?_))
    rw [List.take_of_length_le (by omega)] at hI
    simp [hI]
theorem refFind_w (h : RB σ T l vars C) (hx : SlV .int (σ.at T 0) c x) (hin : c.all inB = true) (hcl : c.length ≤ 1000000) :
    W (S.skolemref20_Base_find (.ptr l 0) x σ) fun r => Hle σ r.2 ∧ r.1 = match C.findIdx? (fun d => decide (normL d = normL c)) with
      | some k => (k : Int)
      | none => -1 := by
  obtain ⟨⟨v, ws, hl, hv, hA⟩, ok, vl, cl, ll⟩ := h
  have hC := hA.at hv
  unfold S.skolemref20_Base_find
  refine W.bind ?_
  refine W.loop C.length (fun i (y : Int) τ => y = (i : Int) ∧ Hle σ τ ∧ ∀ j a, j < i → C[j]? = some a → decide (normL a = normL c) = false) ⟨rfl, Hle.refl _, upto0⟩ fun i y τ hi hI => ?_
  obtain ⟨rfl, L, hI⟩ := hI
  have hl' := hl.hle L
  have hC' := hC.hle L
  have hx' := hx.hle L
  unfold S.skolemref20_Base_find.b0
  repeat' (with_reducible (first | refine W.asV ?_ | refine W.fldp ?_ | refine W.len (by assumption) ?_ | refine W.nck ?_ | refine W.ldL (Loc.up (by assumption)) (by with_unfolding_all rfl) ?_))
  (with_reducible refine W.cnd (fun hc => ?_) (fun hc => ?_) <;> (try simp only [q1, q2, q3, q4, q5, q6, q7, q8, q9, q10, q11, q12, q13, q14, q15, q16, q17, q18, q19, q20, q21, q22, q23, q24, q25, q26, q27, q28, q29, q30, Kd.ty] at hc) <;> (try (exfalso; omega)))
  · repeat' (with_reducible (first | refine W.asV ?_ | refine W.fldp ?_ | refine W.nck ?_ | refine W.ldL (Loc.up (by assumption)) (by with_unfolding_all rfl) ?_))
    refine W.ixLS hC' at_le (by omega) fun d w hd hw => ?_
    have hmd := List.mem_of_getElem? hd
    refine W.bind ?_
    refine W.mono (refSame_w hw.up hx'.up (rightC_inB vl (ok d hmd)) hin (by have := ll d hmd; omega) hcl) fun r hr => ?_
    obtain ⟨b, τ2⟩ := r
    obtain ⟨L2, e⟩ := hr
    dsimp only at L2 e ⊢
    subst e
    (with_reducible refine W.cnd (fun hq => ?_) (fun hq => ?_) <;> (try simp only [q1, q2, q3, q4, q5, q6, q7, q8, q9, q10, q11, q12, q13, q14, q15, q16, q17, q18, q19, q20, q21, q22, q23, q24, q25, q26, q27, q28, q29, q30, Kd.ty] at hq) <;> (try (exfalso; omega)))
    · repeat' (with_reducible (first | refine W.stop ?_ | refine W.ret ?_))
      rw [findIdx_some (p := fun d => decide (normL d = normL c)) (i := i) hI hd (by simpa using hq)]
      exact ⟨L.trans L2, rfl⟩
    · repeat' (with_reducible refine W.next ?_)
      exact ⟨by omega, sk, L.trans L2, upto (P := fun _ a => decide (normL a = normL c) = false) hI hd (by simpa using hq)⟩
  · repeat' (with_reducible (first | refine W.stop ?_ | refine W.ret ?_))
    rw [findIdx_none (p := fun d => decide (normL d = normL c)) (i := i) hI (by omega)]
    exact ⟨L, rfl⟩
theorem map_erase : ∀ {C : List (List Int)} {n : List Int} {k : Nat}, C.findIdx? (fun d => decide (normL d = n)) = some k → (C.take k ++ C.drop (k + 1)).map normL = (C.map normL).erase n ∧ n ∈ C.map normL
  | [], n, k, h => by simp at h
  | d :: t, n, k, h => by
    rw [List.findIdx?_cons] at h
    by_cases hd : normL d = n
    · rw [decide_eq_true hd] at h
      simp at h; subst h
      subst hd
      simp
    · rw [decide_eq_false hd] at h
      simp only [Bool.false_eq_true, if_false] at h
      cases hf : t.findIdx? fun d => decide (normL d = n) with
      | none => rw [hf] at h; cases h
      | some j =>
        rw [hf] at h
        simp at h; subst h
        obtain ⟨h1, h2⟩ := map_erase hf
        refine ⟨?_, by simp [h2]⟩
        rw [List.take_succ_cons, List.drop_succ_cons, List.cons_append, List.map_cons, List.map_cons, h1, List.erase_cons_tail (by simpa using hd)]
theorem AllV.cutAt {ws : List AVal} (h : AllV σ T C ws) (k : Nat) : AllV σ T (C.take k ++ C.drop (k + 1)) (ws.take k ++ ws.drop (k + 1)) := ⟨by simp [h.1], fun i d hd => by
  by_cases hlt : i < (C.take k).length
  · rw [List.getElem?_append_left hlt] at hd
    have hlt2 : i < (ws.take k).length := by simp [h.1] at hlt ⊢; omega
    rw [List.getElem?_append_left hlt2]
    have hik : i < k := by simp at hlt; omega
    rw [List.getElem?_take_of_lt hik] at hd ⊢
    exact h.2 i d hd
  · rw [List.getElem?_append_right (by omega)] at hd
    have hle : (ws.take k).length = (C.take k).length := by simp [h.1]
    rw [List.getElem?_append_right (by omega), hle]
    rw [List.getElem?_drop] at hd ⊢
    exact h.2 _ d hd⟩
theorem refDrop_w (h : RB σ T l vars C) (hn : Tn σ T) (hx : SlV .int (σ.at T 0) c x) (hin : c.all inB = true) (hcl : c.length ≤ 1000000) :
    W (S.skolemref20_Base_Drop (.ptr l 0) x σ) fun r => (r.1 = true ↔ normL c ∈ C.map normL) ∧ Hop (only 1) σ T r.2 T ∧ ∃ C', RB r.2 T l vars C' ∧ C'.map normL = (C.map normL).erase (normL c) ∧ C'.length ≤ C.length := by
  have h0 := h
  have hn0 := hn
  unfold S.skolemref20_Base_Drop
  refine W.bind ?_
  refine W.mono (refFind_w h hx hin hcl) fun r hr => ?_
  obtain ⟨r, τ⟩ := r
  obtain ⟨L, hr⟩ := hr
  dsimp only at L hr ⊢
  cases hf : C.findIdx? fun d => decide (normL d = normL c) with
  | none =>
    rw [hf] at hr
    dsimp only at hr; subst hr
    have hnm : normL c ∉ C.map normL := fun hm => by
      obtain ⟨d, hd, e⟩ := List.mem_map.1 hm
      rw [List.findIdx?_eq_none_iff] at hf
      have := hf d hd
      simp [e] at this
    repeat' (first | (with_reducible refine W.ret ?_) | (with_reducible refine W.condT ?_ ?_; focus (first | (simp only [q1, q2, q3, q4, q5, q6, q7, q8, q9, q10, q11, q12, q13, q14, q15, q16, q17, q18, q19, q20, q21, q22, q23, q24, q25, q26, q27, q28, q29, q30, Kd.ty]; done) | (simp only [q1, q2, q3, q4, q5, q6, q7, q8, q9, q10, q11, q12, q13, q14, q15, q16, q17, q18, q19, q20, q21, q22, q23, q24, q25, q26, q27, q28, q29, q30, Kd.ty]; omega) | assumption)))
    exact ⟨by simp [hnm], Hop.of hn L, C, h0.hle L, (List.erase_of_not_mem hnm).symm, Nat.le_refl _⟩
  | some k =>
    rw [hf] at hr
    dsimp only at hr; subst hr
    obtain ⟨he, hmem⟩ := map_erase hf
    have hk : k < C.length := by
      rw [List.findIdx?_eq_some_iff_getElem] at hf
      exact hf.1
    obtain ⟨⟨v, ws, hl, hv, hA⟩, ok, vl, cl, ll⟩ := h
    replace hl := hl.hle L
    replace hv := hv.hle L
    replace hA := hA.hle L
    replace hn := hn.mono L
    have hl1 := hl
    have hA1 := hA
    have hn1 := hn
    have hwl := hA.1
    obtain ⟨y1, e1, hy1⟩ := hv.slice (lo := 0) (hi := k) (by omega) (by omega)
    obtain ⟨y2, e2, hy2⟩ := hv.slice (lo := k + 1) (hi := ws.length) (by omega) (Nat.le_refl _)
    rw [List.drop_zero] at hy1
    rw [List.take_length] at hy2
    repeat' (first | (with_reducible (first | refine W.asV ?_ | refine W.fldp ?_ | refine W.nck ?_ | refine W.ldL (Loc.up (by assumption)) (by with_unfolding_all rfl) ?_)) | (with_reducible refine W.condF ?_ ?_; focus (first | (simp only [q1, q2, q3, q4, q5, q6, q7, q8, q9, q10, q11, q12, q13, q14, q15, q16, q17, q18, q19, q20, q21, q22, q23, q24, q25, q26, q27, q28, q29, q30, Kd.ty]; done) | (simp only [q1, q2, q3, q4, q5, q6, q7, q8, q9, q10, q11, q12, q13, q14, q15, q16, q17, q18, q19, q20, q21, q22, q23, q24, q25, q26, q27, q28, q29, q30, Kd.ty]; omega) | assumption)))
    refine W.to ((e1 at_le _).1) ?_
    refine W.bind ?_
    refine W.mono (refClauses_w hy1.up (by simp; omega) fun w hw => hA1.scal w (List.mem_of_mem_take hw)) fun r hr => ?_
    obtain ⟨z, τ2⟩ := r
    obtain ⟨L2, hZ⟩ := hr
    dsimp only at L2 hZ ⊢
    replace hl := hl.hle L2
    replace hn := hn.mono L2
    repeat' (with_reducible (first | refine W.asV ?_ | refine W.fldp ?_ | refine W.nck ?_ | refine W.ldL (Loc.up (by assumption)) (by with_unfolding_all rfl) ?_))
    rw [sk]
    refine W.to ((e2 (Hle.trans at_le L2) _).2 rfl) ?_
    refine W.app (σ0 := τ) (bytes := 24) hZ L2 (hy2.up.mono (hZ.out_le L2)) (by simp; omega) (by simp; omega) fun z3 τ3 L3 hZ3 _ => ?_
    replace hl := hl1.hle L3
    have hA := hA1.hle L3
    replace hn := hn1.mono L3
    have hZ3 := hZ3.at0F (T := T) vRaw_flat fun k hk => hn1.z k hk
    repeat' (with_reducible (first | refine W.fldp ?_ | refine W.scalS (by assumption) ?_ | refine W.nck ?_))
    refine W.stT hl hn (Nat.le_of_ble_eq_true (by rfl)) fun τ4 H4 hl hnτ4 => ?_
    replace hZ3 := hZ3.hop H4
    replace hA := hA.hop H4
    replace hn := H4.tn
    repeat' (with_reducible refine W.ret ?_)
    refine ⟨by simp [hmem], (Hop.of hn0 (L.trans L3)).trans H4, _, ⟨⟨_, _, hl, hZ3, hA.cutAt k⟩, fun d hd => ok d ?_, vl, by simp; omega, fun d hd => ll d ?_⟩, he, by simp; omega⟩
    · rcases List.mem_append.1 hd with hd | hd
      · exact List.mem_of_mem_take hd
      · exact List.mem_of_mem_drop hd
    · rcases List.mem_append.1 hd with hd | hd
      · exact List.mem_of_mem_take hd
      · exact List.mem_of_mem_drop hd
theorem refAdd_w (h : RB σ T l vars C) (hn : Tn σ T) (hx : SlV .int (σ.at T 0) c x) (hcl : c.length ≤ 400000) (hsz : C.length < 900000) :
    W (S.skolemref20_Base_Add (.ptr l 0) x σ) fun r => (r.1 = true ↔ rightC vars c) ∧ Hop (only 1) σ T r.2 T ∧ (¬ rightC vars c → RB r.2 T l vars C) ∧ (rightC vars c → RB r.2 T l vars (C ++ [c])) := by
  have h0 := h
  obtain ⟨⟨v, ws, hl, hv, hA⟩, ok, vl, cl, ll⟩ := h
  unfold S.skolemref20_Base_Add
  refine W.bind ?_
  refine W.mono (refRight_w hl.up vl hx.up (by omega)) fun b hb => ?_
  by_cases hR : rightC vars c
  · rw [hb.2 hR]
    refine W.condF rfl ?_
    have hl1 := hl
    have hA1 := hA
    have hn1 := hn
    have hwl := hA.1
    repeat' (with_reducible (first | refine W.bind ?_ | refine W.asV ?_ | refine W.fldp ?_ | refine W.nck ?_ | refine W.ldL (Loc.up (by assumption)) (by with_unfolding_all rfl) ?_))
    refine W.mono (refClauses_w hv.up (by omega) hA1.scal) fun r hr => ?_
    obtain ⟨z, τ2⟩ := r
    obtain ⟨L2, hZ⟩ := hr
    dsimp only at L2 hZ ⊢
    repeat' (with_reducible refine W.bind ?_)
    refine W.mono (ints_w (hx.up.mono L2) (by omega)) fun r hr => ?_
    obtain ⟨u, τ3⟩ := r
    obtain ⟨hU, L3⟩ := hr
    dsimp only at hU L3 ⊢
    have L23 := L2.trans L3
    have hU0 := hU.at0 (T := T) fun k hk => (hn1.mono L2).z k hk
    refine W.to (hU.sl.scal _) ?_
    have hZ3 := hZ.mono L3
    refine W.push (σ0 := σ) (bytes := 24) hZ3 L23 (a := u) (cs := [u]) rfl (by omega) (by omega) fun z4 τ4 L4 hZ4 hout => ?_
    have hu1 : SlV .int (A.out τ3 z) c u := hU.sl_out Vw.int_flat hZ (Nat.le_refl _)
    have hu2 : SlV .int τ4 c u := (hu1.mono hout).mono (Hle.out _ _)
    have hu3 : SlV .int (τ4.at T 0) c u := Fresh.at0 (n0 := σ.next) ⟨hu2, fun l off len cc e => Nat.le_trans L2.next (hU.loc l off len cc e).1⟩ fun k hk => hn1.z k hk
    replace hl := hl1.hle L4
    replace hA := hA1.hle L4
    replace hn := hn1.mono L4
    have hZ4 := hZ4.at0F (T := T) vRaw_flat fun k hk => hn1.z k hk
    repeat' (with_reducible (first | refine W.fldp ?_ | refine W.scalS (by assumption) ?_ | refine W.nck ?_))
    refine W.stT hl hn (Nat.le_of_ble_eq_true (by rfl)) fun τ5 H5 hl hnτ5 => ?_
    replace hZ4 := hZ4.hop H5
    replace hA := hA.hop H5
    replace hu3 := hu3.hop H5
    replace hn := H5.tn
    repeat' (with_reducible refine W.ret ?_)
    refine ⟨by simp [hR], (Hop.of hn1 L4).trans H5, fun h => absurd hR h, fun _ => ⟨⟨_, _, hl, hZ4, hA.snoc hu3⟩, fun d hd => ?_, vl, by simp; omega, fun d hd => ?_⟩⟩
    · rcases List.mem_append.1 hd with hd | hd
      · exact ok d hd
      · rw [List.mem_singleton.1 hd]; exact hR
    · rcases List.mem_append.1 hd with hd | hd
      · exact ll d hd
      · rw [List.mem_singleton.1 hd]; exact hcl
  · have : b = false := by
      cases b
      · rfl
      · exact absurd (hb.1 rfl) hR
    subst this
    refine W.condT rfl ?_
    repeat' (with_reducible refine W.ret ?_)
    exact ⟨by simp [hR], Hop.refl hn, fun _ => h0, fun h => absurd h hR⟩
theorem refImplied_w (h : RB σ T l vars C) (hx : SlV .int (σ.at T 0) c x) (hcl : c.length ≤ 1000000) :
    W (S.skolemref20_Base_Implied (.ptr l 0) x σ) fun r => r.1 = impl vars (C.map normL) c ∧ Hle σ r.2 := by
  obtain ⟨⟨v, ws, hl, hv, hA⟩, ok, vl, cl, ll⟩ := h
  have hC := hA.at hv
  unfold S.skolemref20_Base_Implied
  refine W.bind ?_
  refine W.mono (refRight_w hl.up vl hx.up (by omega)) fun b hb => ?_
  by_cases hR : rightC vars c
  · rw [hb.2 hR]
    refine W.condF rfl ?_
    have hx' := hx.up
    refine W.call (P := fun r => Hle σ r.2 ∧ Acc .int σ.next r.2 (negs c) r.1) ?_ fun r hr => ?_
    · refine W.loop c.length (fun i (y : AVal × Int) τ' => y.2 = (i : Int) ∧ Hle σ τ' ∧ Acc .int σ.next τ' (negs (c.take i)) y.1) ⟨rfl, Hle.refl _, Acc.nil _ _ _⟩ fun i y τ' hi hI => ?_
      obtain ⟨y, j⟩ := y
      obtain ⟨rfl, L3, hA⟩ := hI
      dsimp only at hA ⊢
      have hx2 := hx'.mono L3
      unfold S.skolemref20_Base_Implied.b0
      repeat' (with_reducible refine W.len (by assumption) ?_)
      (with_reducible refine W.cnd (fun hc => ?_) (fun hc => ?_) <;> (try simp only [q1, q2, q3, q4, q5, q6, q7, q8, q9, q10, q11, q12, q13, q14, q15, q16, q17, q18, q19, q20, q21, q22, q23, q24, q25, q26, q27, q28, q29, q30, Kd.ty] at hc) <;> (try (exfalso; omega)))
      · obtain ⟨a, ha⟩ : ∃ a, c[i]? = some a := ⟨_, List.getElem?_eq_getElem (by omega)⟩
        have hb2 := hR a (List.mem_of_getElem? ha)
        repeat' (with_reducible refine W.ixIc (by assumption) (by assumption) ?_)
        have w : IntKind.i64.wrap (0 - a) = -a := by rw [wrapS] <;> omega
        rw [w]
        refine W.pushI hA L3 (by simp; omega) (by simp; omega) fun y' τ4 L4 hA4 _ => ?_
        repeat' (with_reducible refine W.next ?_)
        refine ⟨by omega, sk, L4, ?_⟩
        have : c.take (i + 1) = c.take i ++ [a] := by rw [List.take_add_one, ha]; rfl
        rw [this]; simpa [negs] using hA4
      · repeat' (with_reducible refine W.stop ?_)
        rw [List.take_of_length_le (by omega)] at hA
        exact ⟨L3, hA⟩
    · obtain ⟨y, τ3⟩ := r
      obtain ⟨L3, hA3⟩ := hr
      dsimp only at L3 hA3 ⊢
      replace hl := hl.hle L3
      replace hC := hC.hle L3
      repeat' (with_reducible (first | refine W.bind ?_ | refine W.asI ?_ | refine W.asV ?_ | refine W.fldp ?_ | refine W.nck ?_ | refine W.ldL (Loc.up (by assumption)) (by with_unfolding_all rfl) ?_))
      refine W.mono (refClosure_w vl hC.up hA3.sl ok (by omega) (fun c hc => by have := ll c hc; omega) (fun k hk => ?_) (by simpa using hcl)) fun r hr => ?_
      · obtain ⟨a, ha, rfl⟩ := List.mem_map.1 hk
        have := hR a ha; omega
      obtain ⟨⟨v, b⟩, τ4⟩ := r
      obtain ⟨hb, L4⟩ := hr
      dsimp only at hb L4 ⊢
      repeat' (with_reducible refine W.ret ?_)
      refine ⟨?_, L3.trans L4⟩
      rw [Bool.eq_iff_iff, impl_iff, conf_normL (C := C) (fun l => Iff.rfl)]
      by_cases hc : Conf C (negs c)
      · have : b ≠ true := fun e => hb.1 e hc
        simp [hc, hR, this]
      · have : b = true := hb.2 hc
        simp [hc, this]
  · have : b = false := by
      cases b
      · rfl
      · exact absurd (hb.1 rfl) hR
    subst this
    refine W.condT rfl ?_
    repeat' (with_reducible refine W.ret ?_)
    refine ⟨?_, Hle.refl _⟩
    rw [Bool.eq_iff_iff, impl_iff]
    simp [hR]
theorem refBlocked_w (h : RB σ T l vars C) (hx : SlV .int (σ.at T 0) c x) (hcl : c.length ≤ 400000) (hn : Tn σ T) :
    W (S.skolemref20_Base_Blocked (.ptr l 0) x σ) fun r => r.1 = blocked vars (C.map normL) c ∧ Hle σ r.2 := by
  unfold S.skolemref20_Base_Blocked
  refine W.bind ?_
  refine W.mono (refImplied_w h hx (by omega)) fun r hr => ?_
  obtain ⟨b, τ⟩ := r
  obtain ⟨hb, L⟩ := hr
  dsimp only at hb L ⊢
  subst hb
  replace h := h.hle L
  replace hx := hx.hle L
  replace hn := hn.mono L
  (with_reducible refine W.cnd (fun hq => ?_) (fun hq => ?_) <;> (try simp only [q1, q2, q3, q4, q5, q6, q7, q8, q9, q10, q11, q12, q13, q14, q15, q16, q17, q18, q19, q20, q21, q22, q23, q24, q25, q26, q27, q28, q29, q30, Kd.ty] at hq) <;> (try (exfalso; omega)))
  · repeat' (with_reducible refine W.ret ?_)
    exact ⟨by unfold blocked; rw [hq]; rfl, L⟩
  obtain ⟨⟨v, ws, hl, hv, hA⟩, ok, vl, cl, ll⟩ := (show _ ∧ _ ∧ _ ∧ _ ∧ _ from ⟨h.ex, h.ok, h.vl, h.cl, h.ll⟩)
  have hC := hA.at hv
  repeat' (with_reducible (first | refine W.bind ?_ | refine W.len (by assumption) ?_))
  cases hcc : c with
  | nil =>
    refine W.condT rfl ?_
    repeat' (with_reducible refine W.ret ?_)
    refine W.condT rfl ?_
    repeat' (with_reducible refine W.ret ?_)
    exact ⟨by rw [blocked_nil, ← hcc, hq], L⟩
  | cons p t =>
    rw [← hcc]
    refine W.condF (by rw [hcc]; simp; omega) ?_
    repeat' (with_reducible refine W.bind ?_)
    refine W.mono (refRight_w hl.up vl hx.up (by omega)) fun b hb => ?_
    by_cases hR : rightC vars c
    · rw [hb.2 hR]
      repeat' (with_reducible refine W.ret ?_)
      refine W.condF rfl ?_
      have hp := hR p (by rw [hcc]; simp)
      refine W.ixI hx.up (i := 0) (a := p) (by rw [hcc]; rfl) (by omega) ?_
      have w : IntKind.i64.wrap (0 - p) = -p := by rw [wrapS] <;> omega
      refine W.bind ?_
      have hbv : blocked vars (C.map normL) c = true ↔ ∀ d ∈ C, -p ∈ d → impl vars (C.map normL) (c ++ d.filter fun x => !(x == -p)) = true := by
        rw [hcc, blocked_iff, ← hcc, hq]
        simp only [Bool.false_eq_true, false_or, hR, true_and]
        constructor
        · intro k d hd hpd
          have := k (normL d) (List.mem_map_of_mem hd) (normL_mem.2 hpd)
          rwa [impl_ext (d := c ++ d.filter fun x => !x == -p) fun l => by simp only [List.mem_append, List.mem_filter, normL_mem]] at this
        · intro k d hd hpd
          obtain ⟨e, he, rfl⟩ := List.mem_map.1 hd
          rw [impl_ext (d := c ++ e.filter fun x => !x == -p) fun l => by simp only [List.mem_append, List.mem_filter, normL_mem]]
          exact k e he (normL_mem.1 hpd)
      have h0 := h
      have hx0 := hx
      refine W.loop C.length (fun i (y : Int) τ' => y = (i : Int) ∧ Hle τ τ' ∧ ∀ d ∈ C.take i, -p ∈ d → impl vars (C.map normL) (c ++ d.filter fun x => !(x == -p)) = true) ⟨rfl, Hle.refl _, by simp⟩ fun i y τ' hi hI => ?_
      obtain ⟨rfl, L', hk⟩ := hI
      have h := h0.hle L'
      have hx := hx0.hle L'
      have hl := hl.hle L'
      have hC := hC.hle L'
      unfold S.skolemref20_Base_Blocked.b1
      repeat' (with_reducible (first | refine W.asV ?_ | refine W.fldp ?_ | refine W.len (by assumption) ?_ | refine W.nck ?_ | refine W.ldL (Loc.up (by assumption)) (by with_unfolding_all rfl) ?_))
      (with_reducible refine W.cnd (fun hc => ?_) (fun hc => ?_) <;> (try simp only [q1, q2, q3, q4, q5, q6, q7, q8, q9, q10, q11, q12, q13, q14, q15, q16, q17, q18, q19, q20, q21, q22, q23, q24, q25, q26, q27, q28, q29, q30, Kd.ty] at hc) <;> (try (exfalso; omega)))
      · obtain ⟨d, hd⟩ : ∃ d, C[i]? = some d := ⟨_, List.getElem?_eq_getElem (by omega)⟩
        have hmd := List.mem_of_getElem? hd
        have ht : C.take (i + 1) = C.take i ++ [d] := by rw [List.take_add_one, hd]; rfl
        repeat' (with_reducible (first | refine W.bind ?_ | refine W.asV ?_ | refine W.fldp ?_ | refine W.nck ?_ | refine W.ldL (Loc.up (by assumption)) (by with_unfolding_all rfl) ?_))
        refine W.ixkLS hC at_le hd fun u hu => ?_
        rw [w]
        repeat' (with_reducible refine W.bind ?_)
        refine W.to (has_eq hu.up (by have := ll d hmd; omega)) ?_
        repeat' (with_reducible refine W.ret ?_)
        (with_reducible refine W.cnd (fun hhas => ?_) (fun hhas => ?_) <;> (try simp only [q1, q2, q3, q4, q5, q6, q7, q8, q9, q10, q11, q12, q13, q14, q15, q16, q17, q18, q19, q20, q21, q22, q23, q24, q25, q26, q27, q28, q29, q30, Kd.ty] at hhas) <;> (try (exfalso; omega)))
        · repeat' (with_reducible (first | refine W.next ?_ | refine W.ret ?_))
          refine ⟨by omega, sk, L', fun e he hpe => ?_⟩
          rw [ht] at he
          rcases List.mem_append.1 he with he | he
          · exact hk e he hpe
          · rw [List.mem_singleton.1 he] at hpe; exact absurd hpe hhas
        · repeat' (with_reducible refine W.bind ?_)
          refine W.mono (ints_w hx.up (by omega)) fun r hr => ?_
          obtain ⟨z, τ2⟩ := r
          obtain ⟨hZ, L2⟩ := hr
          dsimp only at hZ L2 ⊢
          repeat' (with_reducible refine W.bind ?_)
          refine W.mono (P := fun r => Hle τ' r.2 ∧ Acc .int τ'.next r.2 (c ++ d.filter fun x => !(x == -p)) r.1) ?_ fun r hr => ?_
          · refine W.loop d.length (fun m (y : AVal × Int) τ3 => y.2 = (m : Int) ∧ Hle τ' τ3 ∧ Acc .int τ'.next τ3 (c ++ (d.take m).filter fun x => !(x == -p)) y.1) ⟨rfl, L2, by simpa using hZ⟩ fun m y τ3 hm hJ => ?_
            obtain ⟨y, j⟩ := y
            obtain ⟨rfl, L3, hA3⟩ := hJ
            dsimp only at hA3 ⊢
            have hl3 := hl.hle L3
            have hC3 := hC.hle L3
            have hu3 := hu.hle L3
            have hdl := ll d hmd
            have hfl : ((d.take m).filter fun x => !(x == -p)).length ≤ 400000 := Nat.le_trans (List.length_filter_le ..) (by have := ll d hmd; simp; omega)
            unfold S.skolemref20_Base_Blocked.b0
            repeat' (with_reducible (first | refine W.asV ?_ | refine W.fldp ?_ | refine W.nck ?_ | refine W.ldL (Loc.up (by assumption)) (by with_unfolding_all rfl) ?_))
            refine W.ixkLS hC3 at_le hd fun u3 hu3 => ?_
            repeat' (with_reducible refine W.len (by assumption) ?_)
            (with_reducible refine W.cnd (fun hlt => ?_) (fun hlt => ?_) <;> (try simp only [q1, q2, q3, q4, q5, q6, q7, q8, q9, q10, q11, q12, q13, q14, q15, q16, q17, q18, q19, q20, q21, q22, q23, q24, q25, q26, q27, q28, q29, q30, Kd.ty] at hlt) <;> (try (exfalso; omega)))
            · obtain ⟨a, ha⟩ : ∃ a, d[m]? = some a := ⟨_, List.getElem?_eq_getElem (by omega)⟩
              have htm : d.take (m + 1) = d.take m ++ [a] := by rw [List.take_add_one, ha]; rfl
              repeat' (with_reducible (first | refine W.bind ?_ | refine W.asV ?_ | refine W.fldp ?_ | refine W.nck ?_ | refine W.ldL (Loc.up (by assumption)) (by with_unfolding_all rfl) ?_))
              refine W.ixkLS hC3 at_le hd fun u4 hu4 => ?_
              repeat' (with_reducible refine W.ixIc (SlV.up (by assumption)) (by assumption) ?_)
              rw [w]
              (with_reducible refine W.cnd (fun hne => ?_) (fun hne => ?_) <;> (try simp only [q1, q2, q3, q4, q5, q6, q7, q8, q9, q10, q11, q12, q13, q14, q15, q16, q17, q18, q19, q20, q21, q22, q23, q24, q25, q26, q27, q28, q29, q30, Kd.ty] at hne) <;> (try (exfalso; omega)))
              · repeat' (with_reducible (first | refine W.asV ?_ | refine W.fldp ?_ | refine W.nck ?_ | refine W.ldL (Loc.up (by assumption)) (by with_unfolding_all rfl) ?_))
                refine W.ixkLS hC3 at_le hd fun u5 hu5 => ?_
                repeat' (with_reducible refine W.ixIc (SlV.up (by assumption)) (by assumption) ?_)
                refine W.pushI hA3 L3 (by simp; omega) (by simp; omega) fun y4 τ4 L4 hA4 _ => ?_
                repeat' (with_reducible (first | refine W.next ?_ | refine W.ret ?_))
                refine ⟨by omega, sk, L4, ?_⟩
                rw [htm, List.filter_append, ← List.append_assoc]
                have : [a].filter (fun x => !(x == -p)) = [a] := by simp [hne]
                rw [this]; exact hA4
              · repeat' (with_reducible (first | refine W.next ?_ | refine W.ret ?_))
                refine ⟨by omega, sk, L3, ?_⟩
                rw [htm, List.filter_append]
                have : [a].filter (fun x => !(x == -p)) = [] := by simp [hne]
                rw [this, List.append_nil]; exact hA3
            · repeat' (with_reducible refine W.stop ?_)
              rw [List.take_of_length_le (by omega)] at hA3
              exact ⟨L3, hA3⟩
          · obtain ⟨z2, τ3⟩ := r
            obtain ⟨L3, hZ2⟩ := hr
            dsimp only at L3 hZ2 ⊢
            have hn3 : Tn τ' T := hn.mono L'
            have hz0 := hZ2.at0 (T := T) fun k hk => hn3.z k hk
            have hfl : (d.filter fun x => !(x == -p)).length ≤ 400000 := Nat.le_trans (List.length_filter_le ..) (ll d hmd)
            repeat' (with_reducible refine W.bind ?_)
            refine W.mono (refImplied_w (h.hle L3) hz0 (by rw [List.length_append]; omega)) fun r hr => ?_
            obtain ⟨b, τ4⟩ := r
            obtain ⟨hb, L4⟩ := hr
            dsimp only at hb L4 ⊢
            subst hb
            (with_reducible refine W.cnd (fun hi2 => ?_) (fun hi2 => ?_) <;> (try simp only [q1, q2, q3, q4, q5, q6, q7, q8, q9, q10, q11, q12, q13, q14, q15, q16, q17, q18, q19, q20, q21, q22, q23, q24, q25, q26, q27, q28, q29, q30, Kd.ty] at hi2) <;> (try (exfalso; omega)))
            · repeat' (with_reducible (first | refine W.stop ?_ | refine W.ret ?_))
              refine ⟨?_, L.trans (L'.trans (L3.trans L4))⟩
              rw [Bool.eq_iff_iff, hbv]
              simp only [Bool.false_eq_true, false_iff]
              intro hall
              have := hall d hmd hhas
              rw [this] at hi2; cases hi2
            · repeat' (with_reducible (first | refine W.next ?_ | refine W.ret ?_))
              refine ⟨by omega, sk, L'.trans (L3.trans L4), fun e he hpe => ?_⟩
              rw [ht] at he
              rcases List.mem_append.1 he with he | he
              · exact hk e he hpe
              · rw [List.mem_singleton.1 he]; exact hi2
      · repeat' (with_reducible (first | refine W.stop ?_ | refine W.ret ?_))
        rw [List.take_of_length_le (by omega)] at hk
        refine ⟨?_, L.trans L'⟩
        rw [Bool.eq_iff_iff, hbv]
        simp only [true_iff]
        exact hk
    · have hb2 : b = false := by
        cases b
        · rfl
        · exact absurd (hb.1 rfl) hR
      subst hb2
      repeat' (with_reducible refine W.ret ?_)
      refine W.condT rfl ?_
      repeat' (with_reducible refine W.ret ?_)
      refine ⟨?_, L⟩
      rw [Bool.eq_iff_iff, hcc, blocked_iff, ← hcc, hq]
      simp [hR]
end
end Go.Proofs.YtgneblbblihaoaaGreatDoor.A

/- The document's proofs: Refute, Derive, Used. -/
namespace Go.Proofs.YtgneblbblihaoaaGreatDoor.A
open Go
theorem fcells_some (f : Er × Option Int) : ∃ a p x, fcells (some f) = [.int .i64 a, .bool p, .int .i64 x] ∧ a ≠ 0 := by
  match f with
  | (e, none) => exact ⟨_, _, _, rfl, e.code_ne⟩
  | (e, some pos) => exact ⟨_, _, _, rfl, e.code_ne⟩
section
variable {σ : Heap} {vars : Int} {cs : List (List Int)} {ss : List (Bool × List Int)} {x y : AVal}
theorem refGreatest_w (hy : SlV vB σ ss y) (hs : ∀ s ∈ ss, s.2.length ≤ 1000000000 ∧ ∀ x ∈ s.2, -4000 ≤ x ∧ x ≤ 4000) (hl : ss.length ≤ 1000000000) :
    W (S.skolemref20_greatest (.agg [.int .i64 vars, x]) y σ) fun r => r.1 = greatest vars ss ∧ Hle σ r.2 := by
  unfold S.skolemref20_greatest
  repeat' (with_reducible refine W.aggK (by with_unfolding_all rfl) ?_)
  refine W.new fun lc τ hlc L h hnτ => ?_
  have hy := hy.mono L
  repeat' (with_reducible (first | refine W.bind ?_ | refine W.asI ?_ | refine W.ldL (by assumption) (by with_unfolding_all rfl) ?_))
  refine W.mono (P := fun r => r = greatest vars ss) ?_ fun r hr => ?_
  · refine W.loopP ss.length (fun i (z : Int × Int) => z = (greatest vars (ss.take i), (i : Int))) rfl fun i z hi hI => ?_
    subst hI
    unfold S.skolemref20_greatest.b1
    dsimp only
    repeat' (with_reducible refine W.len (by assumption) ?_)
    (with_reducible refine W.cnd (fun hc => ?_) (fun hc => ?_) <;> (try simp only [q1, q2, q3, q4, q5, q6, q7, q8, q9, q10, q11, q12, q13, q14, q15, q16, q17, q18, q19, q20, q21, q22, q23, q24, q25, q26, q27, q28, q29, q30, Kd.ty] at hc) <;> (try (exfalso; omega)))
    · obtain ⟨s, hsi⟩ : ∃ s, ss[i]? = some s := ⟨_, List.getElem?_eq_getElem (by omega)⟩
      obtain ⟨hsl, hsx⟩ := hs s (List.mem_of_getElem? hsi)
      repeat' (with_reducible refine W.bind ?_)
      refine W.mono (P := fun r => r = maxV (greatest vars (ss.take i)) s.2) ?_ fun r hr => ?_
      · refine W.loopP s.2.length (fun j (z : Int × Int) => z = (maxV (greatest vars (ss.take i)) (s.2.take j), (j : Int))) rfl fun j z hj hI => ?_
        subst hI
        unfold S.skolemref20_greatest.b0
        dsimp only
        refine W.ixkc hy hsi fun p us hp hr => ?_
        obtain ⟨w, rfl, hw⟩ := vB_rel hr
        repeat' (with_reducible (first | refine W.asV ?_ | refine W.len (by assumption) ?_ | refine W.fldld (by assumption) (by with_unfolding_all rfl) ?_))
        (with_reducible refine W.cnd (fun hq => ?_) (fun hq => ?_) <;> (try simp only [q1, q2, q3, q4, q5, q6, q7, q8, q9, q10, q11, q12, q13, q14, q15, q16, q17, q18, q19, q20, q21, q22, q23, q24, q25, q26, q27, q28, q29, q30, Kd.ty] at hq) <;> (try (exfalso; omega)))
        · obtain ⟨a, ha⟩ : ∃ a, s.2[j]? = some a := ⟨_, List.getElem?_eq_getElem (by omega)⟩
          have := hsx a (List.mem_of_getElem? ha)
          refine W.ixkc hy hsi fun p us hp hr => ?_
          obtain ⟨w, rfl, hw⟩ := vB_rel hr
          repeat' (with_reducible (first | refine W.bind ?_ | refine W.asV ?_ | refine W.fldld (by assumption) (by with_unfolding_all rfl) ?_ | refine W.ixIc (by assumption) (by assumption) ?_))
          refine W.to (abs_eq ⟨by omega, by omega⟩) ?_
          repeat' (with_reducible (first | refine W.nextP ?_ | refine W.ret ?_))
          refine ⟨by omega, ?_⟩
          have ht : s.2.take (j + 1) = s.2.take j ++ [a] := by rw [List.take_add_one, ha]; rfl
          rw [ht, maxV_snoc, sk]
        · repeat' (with_reducible refine W.stopP ?_)
          rw [List.take_of_length_le (l := s.2) (by omega)]
      · subst hr
        repeat' (with_reducible refine W.nextP ?_)
        have ht : ss.take (i + 1) = ss.take i ++ [s] := by rw [List.take_add_one, hsi]; rfl
        refine ⟨by omega, ?_⟩
        rw [ht, greatest_snoc, sk]
    · repeat' (with_reducible refine W.stopP ?_)
      rw [List.take_of_length_le (by omega)]
  · subst hr
    repeat' (with_reducible refine W.ret ?_)
    exact ⟨rfl, L⟩
theorem refCheckP_w (hy : SlV vB σ ss y) (hb : (litsOf ss).flatten.length ≤ 1000000000) (hl : ss.length ≤ 1000000000) :
    W (S.skolemref20_Check y σ) fun r => r.1 = .agg (fcells (chkP ss)) ∧ Hle σ r.2 := by
  have hll : (litsOf ss).length = ss.length := by simp [litsOf]
  have hn : Tn σ Tz := Tn.tz
  have hy : SlV vB (σ.at Tz 0) ss y := by rw [at_tz]; exact hy
  have HH : Hop stI σ Tz σ Tz := Hop.refl hn
  unfold S.skolemref20_Check
  refine W.newT 14 hn fun lb τ T hlb H h hnτ => ?_
  replace hy := hy.hop H
  replace HH := HH.hop H
  replace hn := H.tn
  have hyu := hy.up
  refine W.bind ?_
  refine W.mono (P := fun r => r = ((litsOf ss).flatten.length : Int)) ?_ fun r hr => ?_
  · refine W.loopP ss.length (fun i (z : Int × Int) => z = ((((litsOf ss).take i).flatten.length : Int), (i : Int))) (by simp) fun i z hi hI => ?_
    subst hI
    unfold S.skolemref20_Check.b0
    dsimp only
    repeat' (with_reducible refine W.len (by assumption) ?_)
    (with_reducible refine W.cnd (fun hc => ?_) (fun hc => ?_) <;> (try simp only [q1, q2, q3, q4, q5, q6, q7, q8, q9, q10, q11, q12, q13, q14, q15, q16, q17, q18, q19, q20, q21, q22, q23, q24, q25, q26, q27, q28, q29, q30, Kd.ty] at hc) <;> (try (exfalso; omega)))
    · obtain ⟨s, hsi⟩ : ∃ s, ss[i]? = some s := ⟨_, List.getElem?_eq_getElem (by omega)⟩
      have hz : (litsOf ss)[i]? = some s.2 := by unfold litsOf; rw [List.getElem?_map, hsi]; rfl
      refine W.ixkc hyu hsi fun p us hp hr => ?_
      obtain ⟨w, rfl, hw⟩ := vB_rel hr
      repeat' (with_reducible (first | refine W.nextP ?_ | refine W.asV ?_ | refine W.len (by assumption) ?_ | refine W.fldld (by assumption) (by with_unfolding_all rfl) ?_))
      have h1 := flat_take_le (litsOf ss) (i + 1)
      rw [take_succ_flat hz, List.length_append] at h1
      have : i < ss.length := by omega
      refine ⟨this, ?_⟩
      rw [take_succ_flat hz, List.length_append, sk]
      congr 1
      rw [wrapS] <;> omega
    · repeat' (with_reducible refine W.stopP ?_)
      rw [List.take_of_length_le (by omega)]
  · subst hr
    (with_reducible refine W.cnd (fun hq => ?_) (fun hq => ?_) <;> (try simp only [q1, q2, q3, q4, q5, q6, q7, q8, q9, q10, q11, q12, q13, q14, q15, q16, q17, q18, q19, q20, q21, q22, q23, q24, q25, q26, q27, q28, q29, q30, Kd.ty] at hq) <;> (try (exfalso; omega)))
    · refine W.bind ?_
      refine W.mono bare_w fun r hr => ?_
      obtain ⟨v, τ2⟩ := r
      obtain ⟨e, L2⟩ := hr
      dsimp only at e L2 ⊢
      subst e
      replace h := h.hle L2
      replace HH := HH.hle L2
      replace hn := hn.mono L2
      repeat' (with_reducible refine W.aggK (by with_unfolding_all rfl) ?_)
      refine W.stT h hn (Nat.le_of_ble_eq_true (by rfl)) fun τ3 H3 h hnτ3 => ?_
      replace HH := HH.hop H3
      repeat' (with_reducible (first | refine W.ret ?_ | refine W.ldGL (Loc.up (by assumption)) (Nat.le_of_ble_eq_true (by with_unfolding_all rfl)) ?_))
      have e : chkP ss = some (.limit, none) := if_pos (by omega)
      rw [e]
      exact ⟨rfl, hop_hle HH⟩
    · have e : chkP ss = ((litsOf ss).findIdx? (badC 4000)).map fun k => (.range, some (k : Int)) := if_neg (by omega)
      rw [e]
      refine W.bind ?_
      refine W.loop ss.length (fun i (z : Int) τ' => z = (i : Int) ∧ τ = τ' ∧ ∀ j a, j < i → (litsOf ss)[j]? = some a → badC 4000 a = false) ⟨rfl, rfl, upto0⟩ fun i z τ' hi hI => ?_
      obtain ⟨rfl, rfl, hI⟩ := hI
      unfold S.skolemref20_Check.b2
      repeat' (with_reducible refine W.len (by assumption) ?_)
      (with_reducible refine W.cnd (fun hlt => ?_) (fun hlt => ?_) <;> (try simp only [q1, q2, q3, q4, q5, q6, q7, q8, q9, q10, q11, q12, q13, q14, q15, q16, q17, q18, q19, q20, q21, q22, q23, q24, q25, q26, q27, q28, q29, q30, Kd.ty] at hlt) <;> (try (exfalso; omega)))
      · obtain ⟨s, hsi⟩ : ∃ s, ss[i]? = some s := ⟨_, List.getElem?_eq_getElem (by omega)⟩
        have hz : (litsOf ss)[i]? = some s.2 := by unfold litsOf; rw [List.getElem?_map, hsi]; rfl
        have hsl : s.2.length ≤ 1000000000 := by have := litsOf_mem (List.mem_of_getElem? hsi); omega
        repeat' (with_reducible refine W.bind ?_)
        refine W.mono (P := fun r => (badC 4000 s.2 = false ∧ r = (.inl (), τ)) ∨ (badC 4000 s.2 = true ∧ r.1 = .inr () ∧ ∃ T', Hop stI σ Tz r.2 T' ∧ Loc (r.2.at T' 14) lb (fcells (some (.range, some (i : Int)))))) ?_ fun r hr => ?_
        · refine W.loop s.2.length (fun k (z : Int) τ' => z = (k : Int) ∧ τ = τ' ∧ ∀ l ∈ s.2.take k, isL l 4000 = true) ⟨rfl, rfl, by simp⟩ fun k z τ' hk hJ => ?_
          obtain ⟨rfl, rfl, hJ⟩ := hJ
          unfold S.skolemref20_Check.b1
          refine W.ixkc hyu hsi fun p us hp hr => ?_
          obtain ⟨w, rfl, hw⟩ := vB_rel hr
          repeat' (with_reducible (first | refine W.asV ?_ | refine W.len (by assumption) ?_ | refine W.fldld (by assumption) (by with_unfolding_all rfl) ?_))
          (with_reducible refine W.cnd (fun hlt2 => ?_) (fun hlt2 => ?_) <;> (try simp only [q1, q2, q3, q4, q5, q6, q7, q8, q9, q10, q11, q12, q13, q14, q15, q16, q17, q18, q19, q20, q21, q22, q23, q24, q25, q26, q27, q28, q29, q30, Kd.ty] at hlt2) <;> (try (exfalso; omega)))
          · obtain ⟨a, ha⟩ : ∃ a, s.2[k]? = some a := ⟨_, List.getElem?_eq_getElem (by omega)⟩
            refine W.ixkc hyu hsi fun p us hp hr => ?_
            obtain ⟨w, rfl, hw⟩ := vB_rel hr
            repeat' (with_reducible (first | refine W.bind ?_ | refine W.asV ?_ | refine W.fldld (by assumption) (by with_unfolding_all rfl) ?_ | refine W.ixIc (by assumption) (by assumption) ?_))
            refine W.to (refIs_eq (by omega) (by omega)) ?_
            repeat' (with_reducible refine W.ret ?_)
            (with_reducible refine W.cnd (fun hbad => ?_) (fun hbad => ?_) <;> (try simp only [q1, q2, q3, q4, q5, q6, q7, q8, q9, q10, q11, q12, q13, q14, q15, q16, q17, q18, q19, q20, q21, q22, q23, q24, q25, q26, q27, q28, q29, q30, Kd.ty] at hbad) <;> (try (exfalso; omega)))
            · refine W.bind ?_
              refine W.mono (placed_w (by decide)) fun r hr => ?_
              obtain ⟨v, τ2⟩ := r
              obtain ⟨e, L2⟩ := hr
              dsimp only at e L2 ⊢
              subst e
              have h2 := h.hle L2
              have HH2 := HH.hle L2
              have hn := HH2.tn
              repeat' (with_reducible refine W.aggK (by with_unfolding_all rfl) ?_)
              refine W.stT h2 hn (Nat.le_of_ble_eq_true (by rfl)) fun τ3 H3 h2 hnτ3 => ?_
              replace HH2 := HH2.hop H3
              repeat' (with_reducible refine W.stop ?_)
              refine .inr ⟨?_, rfl, T, HH2, h2⟩
              unfold badC
              rw [List.any_eq_true]
              exact ⟨a, List.mem_of_getElem? ha, by simpa using hbad⟩
            · repeat' (with_reducible refine W.next ?_)
              refine ⟨by omega, sk, rfl, fun l hl => ?_⟩
              rw [List.take_add_one, ha] at hl
              rcases List.mem_append.1 hl with h | h
              · exact hJ l h
              · have : l = a := by simpa using h
                rw [this]; exact hbad
          · repeat' (with_reducible refine W.stop ?_)
            rw [List.take_of_length_le (by omega)] at hJ
            refine .inl ⟨?_, rfl⟩
            unfold badC
            rw [List.any_eq_false]
            intro l hl
            simp [hJ l hl]
        · rcases hr with ⟨hb, rfl⟩ | ⟨hb, e, T', HH2, h2⟩
          · repeat' (with_reducible refine W.next ?_)
            exact ⟨by omega, sk, rfl, upto (P := fun _ a => badC 4000 a = false) hI hz hb⟩
          · obtain ⟨r, τ3⟩ := r
            dsimp only at e HH2 h2 ⊢
            subst e
            rw [findIdx_some (p := badC 4000) (i := i) hI hz hb]
            repeat' (with_reducible (first | refine W.stop ?_ | refine W.ret ?_ | refine W.ldGL (Loc.up (by assumption)) (Nat.le_of_ble_eq_true (by with_unfolding_all rfl)) ?_))
            exact ⟨rfl, hop_hle HH2⟩
      · repeat' (with_reducible (first | refine W.stop ?_ | refine W.bind ?_))
        rw [findIdx_none (p := badC 4000) (i := i) hI (by omega)]
        refine W.mono none_w fun r hr => ?_
        obtain ⟨v, τ2⟩ := r
        obtain ⟨e, L2⟩ := hr
        dsimp only at e L2 ⊢
        subst e
        replace h := h.hle L2
        replace HH := HH.hle L2
        replace hn := hn.mono L2
        repeat' (with_reducible refine W.aggK (by with_unfolding_all rfl) ?_)
        refine W.stT h hn (Nat.le_of_ble_eq_true (by rfl)) fun τ3 H3 h hnτ3 => ?_
        replace HH := HH.hop H3
        repeat' (with_reducible (first | refine W.ret ?_ | refine W.ldGL (Loc.up (by assumption)) (Nat.le_of_ble_eq_true (by with_unfolding_all rfl)) ?_))
        exact ⟨rfl, hop_hle HH⟩
theorem raw_of (h : SlV vIs σ cs x) : ∃ ws, SlV vRaw σ ws x ∧ ws.length = cs.length ∧ ∀ (i : Nat) (c : List Int), cs[i]? = some c → ∃ w, ws[i]? = some w ∧ SlV .int σ c w := by
  rcases h with ⟨rfl, rfl⟩ | ⟨l, off, c, md, us, rfl, h2, h3, h4, h5⟩
  · exact ⟨[], .inl ⟨rfl, rfl⟩, rfl, fun i c hc => by simp at hc⟩
  · have h4' : (off + cs.length) * 1 ≤ us.length := h4
    have hlen : ((us.drop off).take cs.length).length = cs.length := by simp; omega
    have hget : ∀ (i : Nat) (w : AVal), ((us.drop off).take cs.length)[i]? = some w → (us.drop ((off + i) * 1)).take 1 = [w] := fun i w hw => by
      have hi := (List.getElem?_eq_some_iff.1 hw).1
      rw [hlen] at hi
      rw [List.getElem?_take_of_lt hi, List.getElem?_drop] at hw
      obtain ⟨h8, h9⟩ := List.getElem?_eq_some_iff.1 hw
      rw [Nat.mul_one, List.drop_eq_getElem_cons h8, h9]; rfl
    refine ⟨(us.drop off).take cs.length, .inr ⟨l, off, c, md, us, by rw [hlen], h2, h3, by rw [hlen]; exact h4, fun i w hw => hget i w hw⟩, hlen, fun i c hc => ?_⟩
    obtain ⟨w, e, hw⟩ := h5 i c hc
    refine ⟨w, ?_, hw⟩
    have hi := (List.getElem?_eq_some_iff.1 hc).1
    obtain ⟨w', hw'⟩ : ∃ w', ((us.drop off).take cs.length)[i]? = some w' := ⟨_, List.getElem?_eq_getElem (by rw [hlen]; exact hi)⟩
    have e2 := hget i w' hw'
    have e : (us.drop ((off + i) * 1)).take 1 = [w] := e
    rw [e] at e2
    cases e2
    exact hw'
/-- The steps, the document's way. -/
theorem refSteps20_w {T : Tg} {l lf V : Nat} {C : List (List Int)} {bl : Bool} {f0 : List AVal} (h : RB σ T l V C) (hn : Tn σ T) (hf : Loc (σ.at T 14) lf f0) (hf3 : f0.length = 3) (hy : SlV vB (σ.at T 0) ss y) (hR : ∀ s ∈ ss, s.2.length ≤ 400000 ∧ s.2.all inB = true) (hsz : C.length + ss.length ≤ 800000) :
    W (loopW (S.skolemref20_run.b0 y bl (.ptr lf 0) (.ptr l 0)) 0 σ) fun r => Hop (fun j => j == 1 || j == 14) σ T r.2 T ∧ match runD bl V 0 (C.map normL) ss with
      | .inl k => r.1 = .inr .nilp ∧ Loc (r.2.at T 14) lf (fcells (some (.proof, some (k : Int))))
      | .inr D => r.1 = .inl () ∧ Loc (r.2.at T 14) lf f0 ∧ ∃ C', RB r.2 T l V C' ∧ C'.map normL = D := by
  have HH : Hop (fun j => j == 1 || j == 14) σ T σ T := Hop.refl hn
  have hy0 := hy
  refine W.loop ss.length (fun i (z : Int) τ => z = (i : Int) ∧ Hop (fun j => j == 1 || j == 14) σ T τ T ∧ Loc (τ.at T 14) lf f0 ∧ ∃ C', RB τ T l V C' ∧ C'.length ≤ C.length + i ∧ runD bl V 0 (C.map normL) ss = runD bl V i (C'.map normL) (ss.drop i)) ⟨rfl, HH, hf, C, h, by omega, rfl⟩ fun i z τ hi hI => ?_
  obtain ⟨rfl, HH, hf, C', h, hcl, hrun⟩ := hI
  replace hn := HH.tn
  replace hy := hy0.hop HH
  have hyu := hy.up
  have finE : ∀ (τ : Heap), Hop (fun j => j == 1 || j == 14) σ T τ T → Loc (τ.at T 14) lf f0 → W ((S.skolemref_Placed 106 (i : Int) τ).bind fun r60 => aggK r60.1 3 fun cs61 => stC r60.2 (.ptr lf 0) cs61 fun σ62 => some ((Sum.inr AVal.nilp : Unit ⊕ AVal), σ62)) fun r => r.1 = .inr .nilp ∧ Hop (fun j => j == 1 || j == 14) σ T r.2 T ∧ Loc (r.2.at T 14) lf (fcells (some (.proof, some (i : Int)))) := fun τ HH hf => by
    refine W.bind ?_
    refine W.mono (placed_w (by decide)) fun r hr => ?_
    obtain ⟨v, τ2⟩ := r
    obtain ⟨e, L2⟩ := hr
    dsimp only at e L2 ⊢
    subst e
    have hn := HH.tn
    replace hf := hf.hle L2
    replace HH := HH.hle L2
    replace hn := hn.mono L2
    repeat' (with_reducible refine W.aggK (by with_unfolding_all rfl) ?_)
    refine W.st0T hf hn (by rw [hf3]; rfl) fun τ3 H3 hf hn3 => ?_
    repeat' (with_reducible refine W.ret ?_)
    exact ⟨rfl, HH.hop H3, hf⟩
  unfold S.skolemref20_run.b0
  repeat' (with_reducible refine W.len (by assumption) ?_)
  (with_reducible refine W.cnd (fun hc => ?_) (fun hc => ?_) <;> (try simp only [q1, q2, q3, q4, q5, q6, q7, q8, q9, q10, q11, q12, q13, q14, q15, q16, q17, q18, q19, q20, q21, q22, q23, q24, q25, q26, q27, q28, q29, q30, Kd.ty] at hc) <;> (try (exfalso; omega)))
  · obtain ⟨⟨del, c⟩, hsi⟩ : ∃ s, ss[i]? = some s := ⟨_, List.getElem?_eq_getElem (by omega)⟩
    obtain ⟨hcl2, hin⟩ := hR _ (List.mem_of_getElem? hsi)
    dsimp only at hcl2 hin
    rw [drop_at hsi] at hrun
    have hrunc : runD bl V i (C'.map normL) ((del, c) :: ss.drop (i + 1)) = bif del then (if normL c ∈ C'.map normL then runD bl V (i + 1) ((C'.map normL).erase (normL c)) (ss.drop (i + 1)) else .inl i) else
      bif mayC bl V (C'.map normL) c then runD bl V (i + 1) (C'.map normL ++ [normL c]) (ss.drop (i + 1)) else .inl i := by rw [runD]
    rw [hrunc] at hrun
    refine W.bind ?_
    refine W.bind ?_
    refine W.ixL hy at_le (by omega) fun p us s hs hp hr => ?_
    rw [hsi] at hs; cases hs
    obtain ⟨w0, rfl, hw0⟩ := vB_rel hr
    have hp' := hp.mono (at_le (σ := τ) (T := T) (i := 0))
    repeat' (with_reducible (first | refine W.asB ?_ | refine W.fldld (by assumption) (by with_unfolding_all rfl) ?_))
    cases del with
    | true =>
      simp only [cond_true] at hrun
      refine W.condT rfl ?_
      refine W.ixL hy at_le (by omega) fun p us s hs hp hr => ?_
      rw [hsi] at hs; cases hs
      obtain ⟨w, rfl, hw⟩ := vB_rel hr
      have hp' := hp.mono (at_le (σ := τ) (T := T) (i := 0))
      repeat' (with_reducible (first | refine W.bind ?_ | refine W.asV ?_ | refine W.fldld (by assumption) (by with_unfolding_all rfl) ?_))
      refine W.mono (refDrop_w (c := c) h hn hw hin (by omega)) fun r hr => ?_
      obtain ⟨b, τ4⟩ := r
      obtain ⟨hbm, H4, C4, h, hm4, hl4⟩ := hr
      dsimp only at hbm H4 h ⊢
      replace hf := hf.hop H4
      replace HH := HH.hop H4
      replace hn := H4.tn
      repeat' (with_reducible refine W.ret ?_)
      by_cases hm : normL c ∈ C'.map normL
      · rw [hbm.2 hm]
        refine W.condF rfl ?_
        repeat' (with_reducible (first | refine W.next ?_ | refine W.ret ?_))
        refine ⟨by omega, sk, HH, hf, C4, h, by omega, ?_⟩
        rw [hrun, if_pos hm, hm4]
      · have e : b = false := by
          cases b
          · rfl
          · exact absurd (hbm.1 rfl) hm
        subst e
        refine W.condT rfl ?_
        refine W.mono (finE τ4 HH hf) fun r hr => ?_
        obtain ⟨r, τ5⟩ := r
        obtain ⟨e, HH, hf⟩ := hr
        dsimp only at e HH hf ⊢
        subst e
        repeat' (with_reducible refine W.stop ?_)
        rw [hrun, if_neg hm]
        exact ⟨HH, rfl, hf⟩
    | false =>
      simp only [cond_false] at hrun
      refine W.condF rfl ?_
      refine W.mono (P := fun r => r.1 = mayC bl V (C'.map normL) c ∧ Hop (fun j => j == 1 || j == 14) σ T r.2 T ∧ Loc (r.2.at T 14) lf f0 ∧ (mayC bl V (C'.map normL) c = true → RB r.2 T l V (C' ++ [c]))) ?_ fun r hr => ?_
      · have step : ∀ (τ4 : Heap) (b : Bool), b = mayC bl V (C'.map normL) c → Hle τ τ4 → W (ixA τ4 y 2 (i : Int) fun a47 => fld a47 1 fun a48 => ld τ4 a48 (.V) fun v49 => (S.skolemref20_Base_Add (.ptr l 0) v49 τ4).bind fun r50 => some (b, r50.2)) fun r => r.1 = mayC bl V (C'.map normL) c ∧ Hop (fun j => j == 1 || j == 14) σ T r.2 T ∧ Loc (r.2.at T 14) lf f0 ∧ (mayC bl V (C'.map normL) c = true → RB r.2 T l V (C' ++ [c])) := fun τ4 b hb L4 => by
          have hy4 := hy.hle L4
          have hn4 := hn.mono L4
          refine W.ixL hy4 at_le (by omega) fun p us s hs hp hr => ?_
          rw [hsi] at hs; cases hs
          obtain ⟨w, rfl, hw⟩ := vB_rel hr
          have hp' := hp.mono (at_le (σ := τ4) (T := T) (i := 0))
          repeat' (with_reducible (first | refine W.bind ?_ | refine W.asV ?_ | refine W.fldld (by assumption) (by with_unfolding_all rfl) ?_))
          refine W.mono (refAdd_w (h.hle L4) hn4 hw (by omega) (by omega)) fun r hr => ?_
          obtain ⟨b2, τ5⟩ := r
          obtain ⟨_, H5, _, h5⟩ := hr
          dsimp only at H5 h5 ⊢
          repeat' (with_reducible refine W.ret ?_)
          exact ⟨hb, (HH.hle L4).hop H5, (hf.hle L4).hop H5, fun hm => h5 (may_right hm)⟩
        cases bl with
        | true =>
          refine W.condT rfl ?_
          refine W.ixL hy at_le (by omega) fun p us s hs hp hr => ?_
          rw [hsi] at hs; cases hs
          obtain ⟨w, rfl, hw⟩ := vB_rel hr
          have hp' := hp.mono (at_le (σ := τ) (T := T) (i := 0))
          repeat' (with_reducible (first | refine W.bind ?_ | refine W.asV ?_ | refine W.fldld (by assumption) (by with_unfolding_all rfl) ?_))
          refine W.mono (refBlocked_w h hw hcl2 hn) fun r hr => ?_
          exact step r.2 r.1 hr.1 hr.2
        | false =>
          refine W.condF rfl ?_
          refine W.ixL hy at_le (by omega) fun p us s hs hp hr => ?_
          rw [hsi] at hs; cases hs
          obtain ⟨w, rfl, hw⟩ := vB_rel hr
          have hp' := hp.mono (at_le (σ := τ) (T := T) (i := 0))
          repeat' (with_reducible (first | refine W.bind ?_ | refine W.asV ?_ | refine W.fldld (by assumption) (by with_unfolding_all rfl) ?_))
          refine W.mono (refImplied_w (c := c) h hw (by omega)) fun r hr => ?_
          exact step r.2 r.1 hr.1 hr.2
      · obtain ⟨b, τ4⟩ := r
        obtain ⟨hb, HH, hf, h4⟩ := hr
        dsimp only at hb HH hf h4 ⊢
        subst hb
        skip
        cases hmay : mayC bl V (C'.map normL) c with
        | true =>
          rw [hmay] at hrun
          refine W.condF rfl ?_
          repeat' (with_reducible (first | refine W.next ?_ | refine W.ret ?_))
          refine ⟨by omega, sk, HH, hf, _, h4 hmay, by simp; omega, ?_⟩
          rw [hrun, List.map_append]; rfl
        | false =>
          rw [hmay] at hrun
          refine W.condT rfl ?_
          refine W.mono (finE τ4 HH hf) fun r hr => ?_
          obtain ⟨r, τ5⟩ := r
          obtain ⟨e, HH, hf⟩ := hr
          dsimp only at e HH hf ⊢
          subst e
          repeat' (with_reducible refine W.stop ?_)
          rw [hrun]
          exact ⟨HH, rfl, hf⟩
  · repeat' (with_reducible refine W.stop ?_)
    rw [List.drop_eq_nil_of_le (by omega), runD] at hrun
    rw [hrun]
    exact ⟨HH, rfl, hf, C', h, rfl⟩
end
end Go.Proofs.YtgneblbblihaoaaGreatDoor.A

/- The document's proofs: Refute, Derive. -/
namespace Go.Proofs.YtgneblbblihaoaaGreatDoor.A
open Go
theorem fcells_len (f : Flt) : (fcells f).length = 3 := by
  match f with
  | none => rfl
  | some (e, none) => rfl
  | some (e, some p) => rfl
section
variable {σ : Heap} {vars : Int} {cs : List (List Int)} {ss : List (Bool × List Int)} {x y : AVal} {bl : Bool}
/-- What run comes to. -/
def RunR (σ : Heap) (bl : Bool) (vars : Int) (cs : List (List Int)) (ss : List (Bool × List Int)) (r : (AVal × AVal) × Heap) : Prop := (∃ f, preF vars cs ss = some f ∧ r.1.2 = .agg (fcells (some f))) ∨ (preF vars cs ss = none ∧ ((∃ k : Nat, runD bl (greatest vars ss) 0 (cs.map normL) ss = .inl k ∧ r.1.2 = .agg (fcells (some (.proof, some (k : Int))))) ∨
  ∃ D, runD bl (greatest vars ss) 0 (cs.map normL) ss = .inr D ∧ r.1.2 = .agg (fcells none) ∧ ((greatest vars ss).toNat : Int) = greatest vars ss ∧ greatest vars ss ≤ 4000 ∧ ∃ l T C, r.1.1 = .ptr l 0 ∧ Tn r.2 T ∧ RB r.2 T l (greatest vars ss).toNat C ∧ C.map normL = D ∧ Hle σ (r.2.at T 0)))
theorem refRun_w (hx : SlV vIs σ cs x) (hy : SlV vB σ ss y) (h1 : cs.flatten.length ≤ 1000000000) (h2 : cs.length ≤ 1000000000) (h3 : (litsOf ss).flatten.length ≤ 1000000000) (h4 : ss.length ≤ 700000) :
    W (S.skolemref20_run (.agg [.int .i64 vars, x]) y bl σ) fun r => Hle σ r.2 ∧ RunR σ bl vars cs ss r := by
  have hn : Tn σ Tz := Tn.tz
  have hx : SlV vIs (σ.at Tz 0) cs x := by rw [at_tz]; exact hx
  have hy : SlV vB (σ.at Tz 0) ss y := by rw [at_tz]; exact hy
  have HH : Hop stI σ Tz σ Tz := Hop.refl hn
  unfold S.skolemref20_run
  repeat' (with_reducible refine W.aggK (by with_unfolding_all rfl) ?_)
  refine W.new0 hn fun l2 τ1 _ L1 hb2 _ => ?_
  replace hx := hx.hle L1
  replace hy := hy.hle L1
  replace HH := HH.hle L1
  replace hn := hn.mono L1
  refine W.newT 14 hn fun l4 τ2 T2 hl4 H2 hb4 hnτ2 => ?_
  replace hx := hx.hop H2
  replace hy := hy.hop H2
  replace HH := HH.hop H2
  replace hb2 := hb2.hop H2
  replace hn := H2.tn
  repeat' (with_reducible (first | refine W.bind ?_ | refine W.ldGL (Loc.up (by assumption)) (Nat.le_of_ble_eq_true (by with_unfolding_all rfl)) ?_))
  refine W.mono (refCheckCNF_w (vars := vars) hx.up h1 h2) fun r hr => ?_
  obtain ⟨v3, τ3⟩ := r
  obtain ⟨e3, L3⟩ := hr
  dsimp only at e3 L3 ⊢
  subst e3
  replace hx := hx.hle L3
  replace hy := hy.hle L3
  replace HH := HH.hle L3
  replace hb2 := hb2.hle L3
  replace hb4 := hb4.hle L3
  replace hn := hn.mono L3
  refine W.newT 15 hn fun l8 τ4 T4 hl8 H4 hb8 hnτ4 => ?_
  replace hx := hx.hop H4
  replace hy := hy.hop H4
  replace HH := HH.hop H4
  replace hb2 := hb2.hop H4
  replace hb4 := hb4.hop H4
  replace hn := H4.tn
  refine W.aggK (fcells_len _) ?_
  refine W.st0T hb8 hn (by rw [fcells_len]; rfl) fun τ5 H5 hb8 hn5 => ?_
  replace hx := hx.hop H5
  replace hy := hy.hop H5
  replace HH := HH.hop H5
  replace hb2 := hb2.hop H5
  replace hb4 := hb4.hop H5
  replace hn := H5.tn
  have errEnd : ∀ (τ : Heap) (f : Er × Option Int), Hop stI σ Tz τ T4 → Loc (τ.at T4 14) l4 [.int .i64 0, .bool false, .int .i64 0] → Loc (τ.at T4 15) l8 (fcells (some f)) → preF vars cs ss = some f → ∀ (X : Option ((AVal × AVal) × Heap)), W (ld τ (.ptr l8 0) (.I .i64) fun n17 => cond (n17 != 0) (ldG τ (.ptr l8 0) 3 fun g18 => aggK g18 3 fun cs19 => stC τ (.ptr l4 0) cs19 fun σ20 => ldG σ20 (.ptr l4 0) 3 fun g21 => some ((AVal.nilp, g21), σ20)) X) fun r => Hle σ r.2 ∧ RunR σ bl vars cs ss r := fun τ f HH hb4 hb8 hp X => by
    obtain ⟨a, p, u, e, ha⟩ := fcells_some f
    rw [e] at hb8
    have hn := HH.tn
    repeat' (with_reducible (first | refine W.asI ?_ | refine W.ldL (Loc.up (by assumption)) (by with_unfolding_all rfl) ?_))
    refine W.condT (by simpa using ha) ?_
    repeat' (with_reducible (first | refine W.aggK (by with_unfolding_all rfl) ?_ | refine W.ldGL (Loc.up (by assumption)) (Nat.le_of_ble_eq_true (by with_unfolding_all rfl)) ?_))
    refine W.stT hb4 hn (Nat.le_of_ble_eq_true (by rfl)) fun τ6 H6 hb4 hnτ6 => ?_
    replace HH := HH.hop H6
    repeat' (with_reducible (first | refine W.ret ?_ | refine W.ldGL (Loc.up (by assumption)) (Nat.le_of_ble_eq_true (by with_unfolding_all rfl)) ?_))
    exact ⟨hop_hle HH, .inl ⟨f, hp, by rw [e]; rfl⟩⟩
  cases hC : chkC vars cs with
  | some f =>
    rw [hC] at hb8
    have hp : preF vars cs ss = some f := by unfold preF; rw [hC]
    have hb8' := hb8
    obtain ⟨a, p, u, e, ha⟩ := fcells_some f
    rw [e] at hb8'
    repeat' (with_reducible (first | refine W.bind ?_ | refine W.asI ?_ | refine W.ldL (Loc.up (by assumption)) (by with_unfolding_all rfl) ?_))
    refine W.condF (by simpa using ha) ?_
    refine W.ret ?_
    exact errEnd τ5 f HH hb4 hb8 hp _
  | none =>
    rw [hC] at hb8
    have hb8' : Loc (τ5.at T4 15) l8 [.int .i64 0, .bool false, .int .i64 0] := hb8
    repeat' (with_reducible (first | refine W.bind ?_ | refine W.asI ?_ | refine W.ldL (Loc.up (by assumption)) (by with_unfolding_all rfl) ?_))
    refine W.condT rfl ?_
    repeat' (with_reducible refine W.bind ?_)
    refine W.mono (refCheckP_w hy.up h3 (by omega)) fun r hr => ?_
    obtain ⟨v6, τ6⟩ := r
    obtain ⟨e6, L6⟩ := hr
    dsimp only at e6 L6 ⊢
    subst e6
    replace hx := hx.hle L6
    replace hy := hy.hle L6
    replace HH := HH.hle L6
    replace hb2 := hb2.hle L6
    replace hb4 := hb4.hle L6
    replace hb8 := hb8.hle L6
    replace hn := hn.mono L6
    refine W.aggK (fcells_len _) ?_
    refine W.st0T hb8 hn (by rw [fcells_len]; rfl) fun τ7 H7 hb8 hn7 => ?_
    replace hx := hx.hop H7
    replace hy := hy.hop H7
    replace HH := HH.hop H7
    replace hb2 := hb2.hop H7
    replace hb4 := hb4.hop H7
    replace hn := H7.tn
    refine W.ret ?_
    cases hP : chkP ss with
    | some f =>
      rw [hP] at hb8
      exact errEnd τ7 f HH hb4 hb8 (by unfold preF; rw [hC]; exact hP) _
    | none =>
      rw [hP] at hb8
      have hb8 : Loc (τ7.at T4 15) l8 [.int .i64 0, .bool false, .int .i64 0] := hb8
      have hp : preF vars cs ss = none := by unfold preF; rw [hC]; exact hP
      obtain ⟨g1, g2, g3, g4⟩ := greatest_in hC hP
      obtain ⟨c1, c2, c3, c4, c5⟩ := chkC_none hC
      obtain ⟨p1, p2⟩ := chkP_none hP
      repeat' (with_reducible (first | refine W.asI ?_ | refine W.ldL (Loc.up (by assumption)) (by with_unfolding_all rfl) ?_))
      refine W.condF rfl ?_
      repeat' (with_reducible (first | refine W.bind ?_ | refine W.ldGL (Loc.up (by assumption)) (Nat.le_of_ble_eq_true (by with_unfolding_all rfl)) ?_))
      refine W.mono (refGreatest_w (vars := vars) hy.up (fun s hs => ⟨by have := litsOf_mem hs; omega, fun x hx => by have := p2 s hs x hx; omega⟩) (by omega)) fun r hr => ?_
      obtain ⟨v8, τ8⟩ := r
      obtain ⟨e8, L8⟩ := hr
      dsimp only at e8 L8 ⊢
      subst e8
      have hb2o := hb2
      replace hx := hx.hle L8
      replace hy := hy.hle L8
      replace HH := HH.hle L8
      replace hb2 := hb2.hle L8
      replace hb4 := hb4.hle L8
      replace hn := hn.mono L8
      obtain ⟨ws, hws, hwl, hwc⟩ := raw_of hx
      have hA : AllV τ8 T4 cs ws := ⟨hwl, hwc⟩
      have hn8 := hn
      repeat' (with_reducible (first | refine W.bind ?_ | refine W.asV ?_ | refine W.chk rfl ?_ | refine W.ldL (Loc.up (by assumption)) (by with_unfolding_all rfl) ?_))
      refine W.mono (refClauses_w hws.up (by omega) hA.scal) fun r hr => ?_
      obtain ⟨z, τ9⟩ := r
      obtain ⟨L9, hZ⟩ := hr
      dsimp only at L9 hZ ⊢
      have hZ0 := hZ.at0F (T := T4) vRaw_flat fun k hk => hn8.z k hk
      replace hy := hy.hle L9
      replace HH := HH.hle L9
      replace hb4 := hb4.hle L9
      replace hA := hA.hle L9
      replace hn := hn.mono L9
      refine W.scalS hZ0.up ?_
      refine W.newT 1 hn fun l27 τ10 T10 hl27 H10 hb27 hnτ10 => ?_
      replace hy := hy.hop H10
      replace HH := HH.hop H10
      replace hb4 := hb4.hop H10
      replace hA := hA.hop H10
      replace hZ0 := hZ0.hop H10
      replace hn := H10.tn
      rw [← g1] at hb27
      have hB : RB τ10 T10 l27 (greatest vars ss).toNat cs := ⟨⟨_, ws, hb27, hZ0, hA⟩, fun c hc k hk => by have := c5 c hc k hk; omega, by omega, by omega, fun c hc => by have := flat_mem hc; omega⟩
      refine W.bind ?_
      refine W.mono (refSteps20_w (bl := bl) hB hn hb4 rfl hy (fun s hs => ⟨by have := litsOf_mem hs; omega, by
        rw [List.all_eq_true]
        intro k hk
        have := p2 s hs k hk
        simp [inB]; omega⟩) (by omega)) fun r hr => ?_
      obtain ⟨r, τ11⟩ := r
      obtain ⟨H11, hr⟩ := hr
      dsimp only at H11 hr ⊢
      replace HH := HH.hop H11
      rw [g1] at hr
      cases hrun : runD bl (greatest vars ss) 0 (cs.map normL) ss with
      | inl k =>
        rw [hrun] at hr
        obtain ⟨rfl, hb4⟩ := hr
        have hb4 : Loc (τ11.at T10 14) l4 [.int .i64 106, .bool true, .int .i64 k] := hb4
        repeat' (with_reducible (first | refine W.ret ?_ | refine W.ldGL (Loc.up (by assumption)) (Nat.le_of_ble_eq_true (by with_unfolding_all rfl)) ?_))
        exact ⟨hop_hle HH, .inr ⟨hp, .inl ⟨k, hrun, rfl⟩⟩⟩
      | inr D =>
        rw [hrun] at hr
        obtain ⟨rfl, hb4, C', hB, hD⟩ := hr
        replace hn := H11.tn
        repeat' (with_reducible refine W.bind ?_)
        refine W.mono none_w fun r hr => ?_
        obtain ⟨v12, τ12⟩ := r
        obtain ⟨e12, L12⟩ := hr
        dsimp only at e12 L12 ⊢
        subst e12
        replace hB := hB.hle L12
        replace hb4 := hb4.hle L12
        replace HH := HH.hle L12
        replace hn := hn.mono L12
        repeat' (with_reducible refine W.aggK (by with_unfolding_all rfl) ?_)
        refine W.stT hb4 hn (Nat.le_of_ble_eq_true (by rfl)) fun τ13 H13 hb4 hnτ13 => ?_
        replace hB := hB.hop H13
        replace HH := HH.hop H13
        repeat' (with_reducible (first | refine W.ret ?_ | refine W.ldGL (Loc.up (by assumption)) (Nat.le_of_ble_eq_true (by with_unfolding_all rfl)) ?_))
        exact ⟨hop_hle HH, .inr ⟨hp, .inr ⟨D, hrun, rfl, g1, g2, l27, T10, C', rfl, HH.tn, hB, hD, by have h := HH.le (j := 0) rfl; rw [at_tz] at h; exact h⟩⟩⟩
theorem refRefute_w (hx : SlV vIs σ cs x) (hy : SlV vB σ ss y) (h1 : cs.flatten.length ≤ 1000000000) (h2 : cs.length ≤ 1000000000) (h3 : (litsOf ss).flatten.length ≤ 1000000000) (h4 : ss.length ≤ 700000) :
    W (S.skolemref20_Refute (.agg [.int .i64 vars, x]) y σ) fun r => Hle σ r.2 ∧ r.1 = .agg (fcells (refuteF vars cs ss)) := by
  unfold S.skolemref20_Refute
  repeat' (with_reducible refine W.aggK (by with_unfolding_all rfl) ?_)
  refine W.new fun l2 τ1 hl2 L1 hb2 hnτ1 => ?_
  refine W.new fun l4 τ2 hl4 L2 hb4 hnτ2 => ?_
  replace hb2 := hb2.mono L2
  have hnx := L2.next
  have LL := L1.trans L2
  replace hx := hx.mono LL
  replace hy := hy.mono LL
  have hnx := LL.next
  have hl4lt : σ.next ≤ l4 := by have := L1.next; omega
  repeat' (with_reducible (first | refine W.bind ?_ | refine W.ldGL (by assumption) (Nat.le_of_ble_eq_true (by with_unfolding_all rfl)) ?_))
  refine W.mono (refRun_w (vars := vars) (bl := true) hx hy h1 h2 h3 h4) fun r hr => ?_
  obtain ⟨⟨vb, vf⟩, τ3⟩ := r
  obtain ⟨L3, hr⟩ := hr
  dsimp only at L3 hr ⊢
  replace hb4 := hb4.mono L3
  have hnx := L3.next
  replace LL := LL.trans L3
  have fin : ∀ (τ : Heap) (f : Flt) (l8 : Nat), l8 ≠ l4 → Hle σ τ → Loc τ l4 [.int .i64 0, .bool false, .int .i64 0] → Loc τ l8 (fcells f) → W (ldG τ (.ptr l8 0) 3 fun g19 => aggK g19 3 fun cs20 => stC τ (.ptr l4 0) cs20 fun σ21 => ldG σ21 (.ptr l4 0) 3 fun g22 => some (g22, σ21)) fun r => Hle σ r.2 ∧ r.1 = .agg (fcells f) := fun τ f l8 hne LL hb4 hb8 => by
    obtain ⟨a, p, u, e⟩ := fcells_eq f
    rw [e] at hb8 ⊢
    repeat' (with_reducible (first | refine W.aggK (by with_unfolding_all rfl) ?_ | refine W.ldGL (by assumption) (Nat.le_of_ble_eq_true (by with_unfolding_all rfl)) ?_))
    refine W.st0 hb4 (by rfl) fun τ' L' hnτ' hb4 => ?_
    repeat' (with_reducible (first | refine W.ret ?_ | refine W.ldGL (by assumption) (Nat.le_of_ble_eq_true (by with_unfolding_all rfl)) ?_))
    exact ⟨LL.ofk hl4lt L', rfl⟩
  refine W.new fun l8 τ4 hl8 L4 hb8 hnτ4 => ?_
  have hl8 : τ3.next = l8 := by omega
  rcases hr with ⟨f, hp, e⟩ | ⟨hp, ⟨k, hrun, e⟩ | ⟨D, hrun, e, g1, g2, l, T, C, e2, hn, hB, hD, _⟩⟩
  · dsimp only at e
    subst e
    have hrf : refuteF vars cs ss = some f := by unfold refuteF; rw [hp]
    rw [hrf]
    refine W.aggK (fcells_len _) ?_
    refine W.st0 hb8 (by rw [fcells_len]; rfl) fun τ5 L5 hn5 hb8 => ?_
    have L45 := L4.ofk (by omega) L5
    replace hb4 := hb4.mono L45
    have hnx := L45.next
    obtain ⟨a, p, u, ef, ha⟩ := fcells_some f
    have hb8' := hb8
    rw [ef] at hb8'
    repeat' (with_reducible (first | refine W.bind ?_ | refine W.asI ?_ | refine W.ldL (by assumption) (by with_unfolding_all rfl) ?_))
    refine W.condF (by simpa using ha) ?_
    repeat' (with_reducible (first | refine W.ret ?_ | refine W.bind ?_))
    refine W.condF rfl ?_
    refine W.ret ?_
    exact fin τ5 (some f) l8 (by have := hb4.lt; omega) (LL.trans L45) hb4 hb8
  · dsimp only at e
    subst e
    have hrf : refuteF vars cs ss = some (.proof, some (k : Int)) := by unfold refuteF; rw [hp]; dsimp only; rw [hrun]
    rw [hrf]
    refine W.aggK (fcells_len _) ?_
    refine W.st0 hb8 (by rw [fcells_len]; rfl) fun τ5 L5 hn5 hb8 => ?_
    have L45 := L4.ofk (by omega) L5
    replace hb4 := hb4.mono L45
    have hnx := L45.next
    have hb8' : Loc τ5 l8 [.int .i64 106, .bool true, .int .i64 k] := hb8
    repeat' (with_reducible (first | refine W.bind ?_ | refine W.asI ?_ | refine W.ldL (by assumption) (by with_unfolding_all rfl) ?_))
    refine W.condF rfl ?_
    repeat' (with_reducible (first | refine W.ret ?_ | refine W.bind ?_))
    refine W.condF rfl ?_
    refine W.ret ?_
    exact fin τ5 _ l8 (by have := hb4.lt; omega) (LL.trans L45) hb4 hb8
  · dsimp only at e e2
    subst e e2
    refine W.aggK (fcells_len _) ?_
    refine W.st0 hb8 (by rw [fcells_len]; rfl) fun τ5 L5 hn5 hb8 => ?_
    have L45 := L4.ofk (by omega) L5
    have hne : l8 ≠ l4 := by have := hb4.lt; omega
    replace hb4 := hb4.mono L45
    have hnx := L45.next
    have hb8 : Loc τ5 l8 [.int .i64 0, .bool false, .int .i64 0] := hb8
    have hB5 := hB.hle L45
    repeat' (with_reducible (first | refine W.bind ?_ | refine W.asI ?_ | refine W.ldL (by assumption) (by with_unfolding_all rfl) ?_))
    refine W.condT rfl ?_
    repeat' (with_reducible refine W.bind ?_)
    refine W.mono (refImplied_w hB5 (SlV.nil _ _) (by simp)) fun r hr => ?_
    obtain ⟨b, τ6⟩ := r
    obtain ⟨hb, L6⟩ := hr
    dsimp only at hb L6 ⊢
    rw [hD, g1] at hb
    subst hb
    replace hb4 := hb4.mono L6
    replace hb8 := hb8.mono L6
    have hnx := L6.next
    have hrf : refuteF vars cs ss = bif impl (greatest vars ss) D [] then none else some (.proof, none) := by unfold refuteF; rw [hp]; dsimp only; rw [hrun]
    rw [hrf]
    replace LL := (LL.trans L45).trans L6
    repeat' (with_reducible (first | refine W.ret ?_ | refine W.bind ?_))
    (with_reducible refine W.cnd (fun hq => ?_) (fun hq => ?_) <;> (try simp only [q1, q2, q3, q4, q5, q6, q7, q8, q9, q10, q11, q12, q13, q14, q15, q16, q17, q18, q19, q20, q21, q22, q23, q24, q25, q26, q27, q28, q29, q30, Kd.ty] at hq) <;> (try (exfalso; omega)))
    · repeat' (with_reducible refine W.bind ?_)
      refine W.mono bare_w fun r hr => ?_
      obtain ⟨v7, τ7⟩ := r
      obtain ⟨e7, L7⟩ := hr
      dsimp only at e7 L7 ⊢
      subst e7
      replace hb4 := hb4.mono L7
      replace hb8 := hb8.mono L7
      have hnx := L7.next
      replace LL := LL.trans L7
      repeat' (with_reducible refine W.aggK (by with_unfolding_all rfl) ?_)
      refine W.st0 hb8 (by rfl) fun τ8 L8 hnτ8 hb8 => ?_
      have hb4 := (hb4.kill (fun e => hne e.symm)).mono L8
      repeat' (with_reducible (first | refine W.ret ?_ | refine W.aggK (by with_unfolding_all rfl) ?_ | refine W.ldGL (by assumption) (Nat.le_of_ble_eq_true (by with_unfolding_all rfl)) ?_))
      rw [hq]
      dsimp only
      refine W.st0 hb4 (by rfl) fun τ' L' hnτ' hb4 => ?_
      repeat' (with_reducible (first | refine W.ret ?_ | refine W.ldGL (by assumption) (Nat.le_of_ble_eq_true (by with_unfolding_all rfl)) ?_))
      exact ⟨(LL.ofk (by have := LL.next; have := L3.next; omega) L8).trans (.refl _) |>.ofk hl4lt L', rfl⟩
    · repeat' (with_reducible (first | refine W.ret ?_ | refine W.aggK (by with_unfolding_all rfl) ?_ | refine W.ldGL (by assumption) (Nat.le_of_ble_eq_true (by with_unfolding_all rfl)) ?_))
      rw [hq]
      dsimp only
      refine W.st0 hb4 (by rfl) fun τ' L' hnτ' hb4 => ?_
      repeat' (with_reducible (first | refine W.ret ?_ | refine W.ldGL (by assumption) (Nat.le_of_ble_eq_true (by with_unfolding_all rfl)) ?_))
      exact ⟨LL.ofk hl4lt L', rfl⟩
theorem refDerive_w {goal : List Int} {z : AVal} (hx : SlV vIs σ cs x) (hy : SlV vB σ ss y) (hz : SlV .int σ goal z) (h1 : cs.flatten.length ≤ 1000000000) (h2 : cs.length ≤ 1000000000) (h3 : (litsOf ss).flatten.length ≤ 1000000000) (h4 : ss.length ≤ 700000) (h5 : goal.length ≤ 1000000) :
    W (S.skolemref20_Derive (.agg [.int .i64 vars, x]) y z σ) fun r => Hle σ r.2 ∧ r.1 = .agg (fcells (deriveF vars cs ss goal)) := by
  unfold S.skolemref20_Derive
  repeat' (with_reducible refine W.aggK (by with_unfolding_all rfl) ?_)
  refine W.new fun l2 τ1 hl2 L1 hb2 hnτ1 => ?_
  refine W.new fun l4 τ2 hl4 L2 hb4 hnτ2 => ?_
  replace hb2 := hb2.mono L2
  have hnx := L2.next
  have LL := L1.trans L2
  replace hx := hx.mono LL
  replace hy := hy.mono LL
  replace hz := hz.mono LL
  have hnx := LL.next
  have hl4lt : σ.next ≤ l4 := by have := L1.next; omega
  have hz2 := hz
  repeat' (with_reducible (first | refine W.bind ?_ | refine W.ldGL (by assumption) (Nat.le_of_ble_eq_true (by with_unfolding_all rfl)) ?_))
  refine W.mono (refRun_w (vars := vars) (bl := false) hx hy h1 h2 h3 h4) fun r hr => ?_
  obtain ⟨⟨vb, vf⟩, τ3⟩ := r
  obtain ⟨L3, hr⟩ := hr
  dsimp only at L3 hr ⊢
  replace hb4 := hb4.mono L3
  replace hz := hz.mono L3
  have hnx := L3.next
  replace LL := LL.trans L3
  have fin : ∀ (τ : Heap) (f : Flt) (l8 : Nat), l8 ≠ l4 → Hle σ τ → Loc τ l4 [.int .i64 0, .bool false, .int .i64 0] → Loc τ l8 (fcells f) → W (ldG τ (.ptr l8 0) 3 fun g19 => aggK g19 3 fun cs20 => stC τ (.ptr l4 0) cs20 fun σ21 => ldG σ21 (.ptr l4 0) 3 fun g22 => some (g22, σ21)) fun r => Hle σ r.2 ∧ r.1 = .agg (fcells f) := fun τ f l8 hne LL hb4 hb8 => by
    obtain ⟨a, p, u, e⟩ := fcells_eq f
    rw [e] at hb8 ⊢
    repeat' (with_reducible (first | refine W.aggK (by with_unfolding_all rfl) ?_ | refine W.ldGL (by assumption) (Nat.le_of_ble_eq_true (by with_unfolding_all rfl)) ?_))
    refine W.st0 hb4 (by rfl) fun τ' L' hnτ' hb4 => ?_
    repeat' (with_reducible (first | refine W.ret ?_ | refine W.ldGL (by assumption) (Nat.le_of_ble_eq_true (by with_unfolding_all rfl)) ?_))
    exact ⟨LL.ofk hl4lt L', rfl⟩
  have finB : ∀ (τ : Heap) (n : Int) (e : Er), n = e.code → Hle σ τ → Loc τ l4 [.int .i64 0, .bool false, .int .i64 0] → W ((S.skolemref_Bare n τ).bind fun r18 => aggK r18.1 3 fun cs19 => stC r18.2 (.ptr l4 0) cs19 fun σ20 => ldG σ20 (.ptr l4 0) 3 fun g21 => some (g21, σ20)) fun r => Hle σ r.2 ∧ r.1 = .agg (fcells (some (e, none))) := fun τ n e hne LL hb4 => by
    subst hne
    refine W.bind ?_
    refine W.mono bare_w fun r hr => ?_
    obtain ⟨v7, τ7⟩ := r
    obtain ⟨e7, L7⟩ := hr
    dsimp only at e7 L7 ⊢
    subst e7
    replace hb4 := hb4.mono L7
    have hnx := L7.next
    repeat' (with_reducible refine W.aggK (by with_unfolding_all rfl) ?_)
    refine W.st0 hb4 (by rfl) fun τ' L' hnτ' hb4 => ?_
    repeat' (with_reducible (first | refine W.ret ?_ | refine W.ldGL (by assumption) (Nat.le_of_ble_eq_true (by with_unfolding_all rfl)) ?_))
    exact ⟨(LL.trans L7).ofk hl4lt L', rfl⟩
  refine W.new fun l8 τ4 hl8 L4 hb8 hnτ4 => ?_
  have hl8 : τ3.next = l8 := by omega
  rcases hr with ⟨f, hp, e⟩ | ⟨hp, ⟨k, hrun, e⟩ | ⟨D, hrun, e, g1, g2, l, T, C, e2, hn, hB, hD, L0⟩⟩
  · dsimp only at e
    subst e
    have hrf : deriveF vars cs ss goal = some f := by unfold deriveF; rw [hp]
    rw [hrf]
    refine W.aggK (fcells_len _) ?_
    refine W.st0 hb8 (by rw [fcells_len]; rfl) fun τ5 L5 hn5 hb8 => ?_
    have L45 := L4.ofk (by omega) L5
    replace hb4 := hb4.mono L45
    have hnx := L45.next
    obtain ⟨a, p, u, ef, ha⟩ := fcells_some f
    have hb8' := hb8
    rw [ef] at hb8'
    repeat' (with_reducible (first | refine W.asI ?_ | refine W.ldL (by assumption) (by with_unfolding_all rfl) ?_))
    refine W.condT (by simpa using ha) ?_
    exact fin τ5 (some f) l8 (by have := hb4.lt; omega) (LL.trans L45) hb4 hb8
  · dsimp only at e
    subst e
    have hrf : deriveF vars cs ss goal = some (.proof, some (k : Int)) := by unfold deriveF; rw [hp]; dsimp only; rw [hrun]
    rw [hrf]
    refine W.aggK (fcells_len _) ?_
    refine W.st0 hb8 (by rw [fcells_len]; rfl) fun τ5 L5 hn5 hb8 => ?_
    have L45 := L4.ofk (by omega) L5
    replace hb4 := hb4.mono L45
    have hnx := L45.next
    have hb8' : Loc τ5 l8 [.int .i64 106, .bool true, .int .i64 k] := hb8
    repeat' (with_reducible (first | refine W.asI ?_ | refine W.ldL (by assumption) (by with_unfolding_all rfl) ?_))
    refine W.condT rfl ?_
    exact fin τ5 _ l8 (by have := hb4.lt; omega) (LL.trans L45) hb4 hb8
  · dsimp only at e e2
    subst e e2
    refine W.aggK (fcells_len _) ?_
    refine W.st0 hb8 (by rw [fcells_len]; rfl) fun τ5 L5 hn5 hb8 => ?_
    have L45 := L4.ofk (by omega) L5
    have hne : l8 ≠ l4 := by have := hb4.lt; omega
    replace hb4 := hb4.mono L45
    replace hz := hz.mono L45
    have hnx := L45.next
    have hb8 : Loc τ5 l8 [.int .i64 0, .bool false, .int .i64 0] := hb8
    have hB5 := hB.hle L45
    have hn5' : Tn τ5 T := hn.mono L45
    have LL5 := LL.trans L45
    repeat' (with_reducible (first | refine W.asI ?_ | refine W.ldL (by assumption) (by with_unfolding_all rfl) ?_))
    refine W.condF rfl ?_
    refine W.bind ?_
    obtain ⟨v, ws, hlb, _, _⟩ := hB5.ex
    refine W.mono (refRight_w hlb.up hB5.vl hz (by omega)) fun b hb => ?_
    rw [g1] at hb
    have hdf : deriveF vars cs ss goal = (open Classical in if rightC (greatest vars ss) goal then (bif impl (greatest vars ss) D goal then none else some (Er.proof, none)) else some (Er.range, none) : Flt) := by unfold deriveF; rw [hp]; dsimp only; rw [hrun]
    rw [hdf]
    by_cases hR : rightC (greatest vars ss) goal
    · rw [hb.2 hR, if_pos hR]
      refine W.condF rfl ?_
      refine W.bind ?_
      refine W.mono (refImplied_w hB5 ((hz2.mono L0).hle L45) (by omega)) fun r hr => ?_
      obtain ⟨b2, τ6⟩ := r
      obtain ⟨hb2, L6⟩ := hr
      dsimp only at hb2 L6 ⊢
      rw [hD, g1] at hb2
      subst hb2
      replace hb4 := hb4.mono L6
      replace hb8 := hb8.mono L6
      have hnx := L6.next
      (with_reducible refine W.cnd (fun hq => ?_) (fun hq => ?_) <;> (try simp only [q1, q2, q3, q4, q5, q6, q7, q8, q9, q10, q11, q12, q13, q14, q15, q16, q17, q18, q19, q20, q21, q22, q23, q24, q25, q26, q27, q28, q29, q30, Kd.ty] at hq) <;> (try (exfalso; omega)))
      · rw [hq]
        exact finB τ6 106 .proof rfl (LL5.trans L6) hb4
      · rw [hq]
        exact fin τ6 none l8 hne (LL5.trans L6) hb4 hb8
    · have : b = false := by
        cases b
        · rfl
        · exact absurd (hb.1 rfl) hR
      subst this
      rw [if_neg hR]
      refine W.condT rfl ?_
      exact finB τ5 104 .range rfl LL5 hb4
end
end Go.Proofs.YtgneblbblihaoaaGreatDoor.A

/- How many first steps are enough; DratSays. -/
namespace Go.Proofs.YtgneblbblihaoaaGreatDoor.A
open Go
theorem W.agI {R : Type} {Q : R → Prop} {a : Int} {cs : List AVal} {K : Int → Option R} (c : W (K a) Q) : W (agS (.agg (.int .i64 a :: cs)) 0 (.I .i64) K) Q := c

/-! ### As lists -/
theorem runD_k {bl : Bool} {V : Int} : ∀ {ss : List (Bool × List Int)} {k k' : Nat} {D E : List (List Int)}, runD bl V k D ss = .inr E → runD bl V k' D ss = .inr E
  | [], k, k', D, E, h => by rw [runD] at h ⊢; exact h
  | (del, c) :: t, k, k', D, E, h => by
    rw [runD] at h ⊢
    cases del with
    | true =>
      simp only [cond_true] at h ⊢
      split at h
      · rename_i hm; rw [if_pos hm]; exact runD_k h
      · cases h
    | false =>
      simp only [cond_false] at h ⊢
      cases hm : mayC bl V D c with
      | true => rw [hm] at h; simp only [cond_true] at h ⊢; exact runD_k h
      | false => rw [hm] at h; cases h
theorem rightC_le {V V' : Int} {c : List Int} (h : rightC V c) (hV : V ≤ V') : rightC V' c := fun l hl => by have := h l hl; omega
theorem impl_vars {V V' : Int} {D : List (List Int)} {c : List Int} (h : rightC V c) (h' : rightC V' c) : impl V D c = impl V' D c := by
  rw [Bool.eq_iff_iff, impl_iff, impl_iff]; simp [h, h']
theorem blocked_vars {V V' : Int} {D : List (List Int)} {c : List Int} (h : rightC V c) (h' : rightC V' c) (hD : ∀ d ∈ D, rightC V d) (hD' : ∀ d ∈ D, rightC V' d) : blocked V D c = blocked V' D c := by
  cases c with
  | nil => rw [blocked_nil, blocked_nil]; exact impl_vars h h'
  | cons p t =>
    rw [Bool.eq_iff_iff, blocked_iff, blocked_iff, impl_vars h h']
    have : ∀ d ∈ D, impl V D ((p :: t) ++ d.filter fun x => !(x == -p)) = impl V' D ((p :: t) ++ d.filter fun x => !(x == -p)) := fun d hd => impl_vars
      (fun l hl => (List.mem_append.1 hl).elim (h l) fun hl => hD d hd l (List.mem_filter.1 hl).1) (fun l hl => (List.mem_append.1 hl).elim (h' l) fun hl => hD' d hd l (List.mem_filter.1 hl).1)
    constructor
    · rintro (k | ⟨_, k⟩)
      · exact .inl k
      · exact .inr ⟨h', fun d hd hp => by rw [← this d hd]; exact k d hd hp⟩
    · rintro (k | ⟨_, k⟩)
      · exact .inl k
      · exact .inr ⟨h, fun d hd hp => by rw [this d hd]; exact k d hd hp⟩
theorem runD_vars {V V' : Int} : ∀ {ss : List (Bool × List Int)} {k : Nat} {D : List (List Int)}, (∀ s ∈ ss, rightC V s.2 ∧ rightC V' s.2) → (∀ d ∈ D, rightC V d ∧ rightC V' d) → runD true V k D ss = runD true V' k D ss
  | [], k, D, _, _ => by rw [runD, runD]
  | (del, c) :: t, k, D, hs, hD => by
    have hc := hs _ (List.mem_cons_self ..)
    have ht : ∀ s ∈ t, rightC V s.2 ∧ rightC V' s.2 := fun s h => hs s (List.mem_cons_of_mem _ h)
    rw [runD, runD]
    cases del with
    | true =>
      simp only [cond_true]
      split
      · exact runD_vars ht fun d hd => hD d (List.mem_of_mem_erase hd)
      · rfl
    | false =>
      simp only [cond_false]
      have hm : mayC true V D c = mayC true V' D c := blocked_vars hc.1 hc.2 (fun d hd => (hD d hd).1) fun d hd => (hD d hd).2
      rw [hm]
      cases mayC true V' D c with
      | true =>
        simp only [cond_true]
        exact runD_vars ht fun d hd => by
          rcases List.mem_append.1 hd with hd | hd
          · exact hD d hd
          · rw [List.mem_singleton.1 hd]; exact ⟨rightC_norm.2 hc.1, rightC_norm.2 hc.2⟩
      | false => rfl
theorem runD_take {bl : Bool} {V : Int} : ∀ {ss : List (Bool × List Int)} {k n : Nat} {D E : List (List Int)}, runD bl V k D ss = .inr E → ∃ F, runD bl V 0 D (ss.take n) = .inr F
  | ss, k, 0, D, E, _ => ⟨D, by rw [List.take_zero, runD]⟩
  | [], k, n + 1, D, E, _ => ⟨D, by rw [List.take_nil, runD]⟩
  | (del, c) :: t, k, n + 1, D, E, h => by
    rw [List.take_succ_cons]
    rw [runD] at h ⊢
    cases del with
    | true =>
      simp only [cond_true] at h ⊢
      split at h
      · rename_i hm
        rw [if_pos hm]
        obtain ⟨F, hF⟩ := runD_take (n := n) h
        exact ⟨F, runD_k hF⟩
      · cases h
    | false =>
      simp only [cond_false] at h ⊢
      cases hm : mayC bl V D c with
      | true =>
        rw [hm] at h
        simp only [cond_true] at h ⊢
        obtain ⟨F, hF⟩ := runD_take (n := n) h
        exact ⟨F, runD_k hF⟩
      | false => rw [hm] at h; cases h
theorem usedK_spec {V : Int} : ∀ {ss : List (Bool × List Int)} {k k0 : Nat} {D E : List (List Int)}, runD true V k0 D ss = .inr E → ∃ n, n ≤ ss.length ∧ usedK V k D ss = k + n ∧ (∀ j F, j < n → runD true V 0 D (ss.take j) = .inr F → impl V F [] = false) ∧ (n < ss.length → ∃ F, runD true V 0 D (ss.take n) = .inr F ∧ impl V F [] = true)
  | [], k, k0, D, E, _ => ⟨0, Nat.le_refl _, by rw [usedK]; rfl, fun j F h => by omega, fun h => by simp at h⟩
  | s :: t, k, k0, D, E, h => by
    rw [usedK]
    cases hi : impl V D [] with
    | true => exact ⟨0, Nat.zero_le _, rfl, fun j F h => by omega, fun _ => ⟨D, by rw [List.take_zero, runD], hi⟩⟩
    | false =>
      obtain ⟨D1, h1, h2⟩ := runD_cons h
      simp only [cond_false, h1]
      obtain ⟨n, n1, n2, n3, n4⟩ := usedK_spec (k := k + 1) h2
      have hstep : ∀ j F, runD true V 0 D ((s :: t).take (j + 1)) = .inr F ↔ runD true V 0 D1 (t.take j) = .inr F := fun j F => by
        rw [List.take_succ_cons]
        constructor
        · intro hF
          obtain ⟨D2, h3, h4⟩ := runD_cons hF
          rw [h1] at h3; cases h3
          exact runD_k h4
        · intro hF
          obtain ⟨del, c⟩ := s
          rw [runD] at h1 ⊢
          cases del with
          | true =>
            simp only [cond_true] at h1 ⊢
            split at h1
            · rename_i hm
              rw [runD] at h1; cases h1
              rw [if_pos hm]; exact runD_k hF
            · cases h1
          | false =>
            simp only [cond_false] at h1 ⊢
            cases hm : mayC true V D c with
            | true =>
              rw [hm] at h1
              simp only [cond_true] at h1 ⊢
              rw [runD] at h1; cases h1
              exact runD_k hF
            | false => rw [hm] at h1; cases h1
      refine ⟨n + 1, by simp; omega, by rw [n2]; omega, fun j F hj hF => ?_, fun hn => ?_⟩
      · cases j with
        | zero => rw [List.take_zero, runD] at hF; cases hF; exact hi
        | succ j => exact n3 j F (by omega) ((hstep j F).1 hF)
      · obtain ⟨F, hF, hi2⟩ := n4 (by simpa using hn)
        exact ⟨F, (hstep n F).2 hF, hi2⟩
/-- A first part of a proof. -/
theorem refuteF_take {vars : Int} {cs : List (List Int)} {ss : List (Bool × List Int)} (h : refuteF vars cs ss = none) (n : Nat) : ∃ F, runD true (greatest vars ss) 0 (cs.map normL) (ss.take n) = .inr F ∧ (refuteF vars cs (ss.take n) = none ↔ impl (greatest vars ss) F [] = true) := by
  have h0 := h
  unfold refuteF at h
  cases hp : preF vars cs ss with
  | some f => rw [hp] at h; cases h
  | none =>
    rw [hp] at h
    dsimp only at h
    obtain ⟨hC, hP⟩ : chkC vars cs = none ∧ chkP ss = none := by
      unfold preF at hp
      cases hC : chkC vars cs with
      | some f => rw [hC] at hp; cases hp
      | none => rw [hC] at hp; exact ⟨rfl, hp⟩
    obtain ⟨c1, c2, c3, c4, c5⟩ := chkC_none hC
    obtain ⟨p1, p2⟩ := chkP_none hP
    obtain ⟨g1, g2, g3, g4⟩ := greatest_in hC hP
    have hP2 : chkP (ss.take n) = none := chkP_ok (by
      refine Nat.le_trans ?_ p1
      have e : litsOf (ss.take n) = (litsOf ss).take n := by unfold litsOf; rw [List.map_take]
      rw [e]; exact flat_take_le _ _) fun s hs => p2 s (List.mem_of_mem_take hs)
    cases hrun : runD true (greatest vars ss) 0 (cs.map normL) ss with
    | inl k => rw [hrun] at h; cases h
    | inr E =>
      obtain ⟨F, hF⟩ := runD_take (n := n) hrun
      refine ⟨F, hF, ?_⟩
      obtain ⟨g1', g2', g3', g4'⟩ := greatest_in (ss := ss.take n) hC hP2
      have hv : runD true (greatest vars (ss.take n)) 0 (cs.map normL) (ss.take n) = .inr F := by
        rw [← hF]
        refine runD_vars (fun s hs => ⟨g4' s hs, g4 s (List.mem_of_mem_take hs)⟩) fun d hd => ?_
        obtain ⟨c, hc, rfl⟩ := List.mem_map.1 hd
        exact ⟨rightC_norm.2 (rightC_le (c5 c hc) g3'), rightC_norm.2 (rightC_le (c5 c hc) g3)⟩
      unfold refuteF
      rw [preF_ok hC hP2]
      dsimp only
      rw [hv]
      dsimp only
      rw [impl_vars (V := greatest vars (ss.take n)) (V' := greatest vars ss) (by simp [rightC]) (by simp [rightC])]
      cases impl (greatest vars ss) F [] <;> simp
theorem used_first {vars : Int} {cs : List (List Int)} {ss : List (Bool × List Int)} (h : refuteF vars cs ss = none) : ∃ n, n ≤ ss.length ∧ usedF vars cs ss = (n, none) ∧ (∀ j, j < n → refuteF vars cs (ss.take j) ≠ none) ∧ (n < ss.length → refuteF vars cs (ss.take n) = none) := by
  obtain ⟨E, hE⟩ : ∃ E, runD true (greatest vars ss) 0 (cs.map normL) ss = .inr E := by
    obtain ⟨F, h1, _⟩ := refuteF_take h ss.length
    rw [List.take_length] at h1
    exact ⟨F, h1⟩
  obtain ⟨n, n1, n2, n3, n4⟩ := usedK_spec (k := 0) hE
  refine ⟨n, n1, ?_, fun j hj hn => ?_, fun hn => ?_⟩
  · unfold usedF
    rw [h]
    dsimp only
    rw [n2, Nat.zero_add]
  · obtain ⟨F, h1, h2⟩ := refuteF_take h j
    have := n3 j F hj h1
    rw [h2.1 hn] at this; cases this
  · obtain ⟨F, h1, h2⟩ := refuteF_take h n
    obtain ⟨F', h3, h4⟩ := n4 hn
    rw [h1] at h3; cases h3
    exact h2.2 h4

/-! ### Used, the document's way -/
section
variable {σ : Heap} {vars : Int} {cs : List (List Int)} {ss : List (Bool × List Int)} {x y : AVal}
theorem refUsed_w (hx : SlV vIs σ cs x) (hy : SlV vB σ ss y) (h1 : cs.flatten.length ≤ 1000000000) (h2 : cs.length ≤ 1000000000) (h3 : (litsOf ss).flatten.length ≤ 1000000000) (h4 : ss.length ≤ 700000) :
    W (S.skolemref20_Used (.agg [.int .i64 vars, x]) y σ) fun r => Hle σ r.2 ∧ r.1.1 = ((usedF vars cs ss).1 : Int) ∧ r.1.2 = .agg (fcells (usedF vars cs ss).2) := by
  unfold S.skolemref20_Used
  repeat' (with_reducible refine W.aggK (by with_unfolding_all rfl) ?_)
  refine W.new fun l2 τ1 hl2 L1 hb2 hnτ1 => ?_
  refine W.new fun l4 τ2 hl4 L2 hb4 hnτ2 => ?_
  replace hb2 := hb2.mono L2
  have hnx := L2.next
  have LL := L1.trans L2
  replace hx := hx.mono LL
  replace hy := hy.mono LL
  have hnx := LL.next
  have hl4lt : σ.next ≤ l4 := by have := L1.next; omega
  repeat' (with_reducible (first | refine W.bind ?_ | refine W.ldGL (by assumption) (Nat.le_of_ble_eq_true (by with_unfolding_all rfl)) ?_))
  refine W.mono (refRefute_w (vars := vars) hx hy h1 h2 h3 h4) fun r hr => ?_
  obtain ⟨vf, τ3⟩ := r
  obtain ⟨L3, e⟩ := hr
  dsimp only at L3 e ⊢
  subst e
  replace hb2 := hb2.mono L3
  replace hb4 := hb4.mono L3
  replace hx := hx.mono L3
  replace hy := hy.mono L3
  have hnx := L3.next
  replace LL := LL.trans L3
  refine W.new fun l8 τ4 hl8 L4 hb8 hnτ4 => ?_
  have hne : l8 ≠ l4 := by have := hb4.lt; omega
  have hne2 : l8 ≠ l2 := by have := hb2.lt; omega
  have hne3 : l2 ≠ l4 := by have := hb2.lt; omega
  refine W.aggK (fcells_len _) ?_
  refine W.st0 hb8 (by rw [fcells_len]; rfl) fun τ5 L5 hn5 hb8 => ?_
  have L45 := L4.ofk (by omega) L5
  replace hb2 := hb2.mono L45
  replace hb4 := hb4.mono L45
  replace hx := hx.mono L45
  replace hy := hy.mono L45
  have hnx := L45.next
  replace LL := LL.trans L45
  cases hrf : refuteF vars cs ss with
  | some f =>
    rw [hrf] at hb8
    have hu : usedF vars cs ss = (0, some f) := by unfold usedF; rw [hrf]
    rw [hu]
    obtain ⟨a, p, u, e, ha⟩ := fcells_some f
    rw [e] at hb8
    repeat' (with_reducible (first | refine W.asI ?_ | refine W.ldL (by assumption) (by with_unfolding_all rfl) ?_))
    refine W.condT (by simpa using ha) ?_
    repeat' (with_reducible (first | refine W.aggK (by with_unfolding_all rfl) ?_ | refine W.ldGL (by assumption) (Nat.le_of_ble_eq_true (by with_unfolding_all rfl)) ?_))
    refine W.st0 hb4 (by rfl) fun τ6 L6 hnτ6 hb4 => ?_
    repeat' (with_reducible (first | refine W.ret ?_ | refine W.ldGL (by assumption) (Nat.le_of_ble_eq_true (by with_unfolding_all rfl)) ?_))
    exact ⟨LL.ofk hl4lt L6, rfl, by rw [e]; rfl⟩
  | none =>
    rw [hrf] at hb8
    have hb8 : Loc τ5 l8 [.int .i64 0, .bool false, .int .i64 0] := hb8
    obtain ⟨n, n1, n2, n3, n4⟩ := used_first hrf
    rw [n2]
    repeat' (with_reducible (first | refine W.asI ?_ | refine W.ldL (by assumption) (by with_unfolding_all rfl) ?_))
    refine W.condF rfl ?_
    refine W.bind ?_
    refine W.loop ss.length (fun i (z : Int) τ => z = (i : Int) ∧ Hle τ5 τ ∧ i ≤ n) ⟨rfl, Hle.refl _, Nat.zero_le _⟩ fun i z τ hi hI => ?_
    obtain ⟨rfl, L, hin⟩ := hI
    have hb2' := hb2.mono L
    have hb4' := hb4.mono L
    have hb8' := hb8.mono L
    have hx' := hx.mono L
    have hy' := hy.mono L
    unfold S.skolemref20_Used.b0
    repeat' (with_reducible refine W.len (by assumption) ?_)
    (with_reducible refine W.cnd (fun hc => ?_) (fun hc => ?_) <;> (try simp only [q1, q2, q3, q4, q5, q6, q7, q8, q9, q10, q11, q12, q13, q14, q15, q16, q17, q18, q19, q20, q21, q22, q23, q24, q25, q26, q27, q28, q29, q30, Kd.ty] at hc) <;> (try (exfalso; omega)))
    · obtain ⟨y1, e1, hy1⟩ := hy'.slice (lo := 0) (hi := i) (by omega) (by omega)
      rw [List.drop_zero] at hy1
      repeat' (with_reducible refine W.ldGL (by assumption) (Nat.le_of_ble_eq_true (by with_unfolding_all rfl)) ?_)
      refine W.to ((e1 (Hle.refl _) _).1) ?_
      repeat' (with_reducible refine W.bind ?_)
      have e2 : litsOf (ss.take i) = (litsOf ss).take i := by unfold litsOf; rw [List.map_take]
      refine W.mono (refRefute_w (vars := vars) hx' hy1 h1 h2 (by rw [e2]; exact Nat.le_trans (flat_take_le _ _) h3) (by simp; omega)) fun r hr => ?_
      obtain ⟨vf, τ6⟩ := r
      obtain ⟨L6, e⟩ := hr
      dsimp only at L6 e ⊢
      subst e
      replace hb4' := hb4'.mono L6
      replace hb8' := hb8'.mono L6
      have hnx := L6.next
      cases hrf2 : refuteF vars cs (ss.take i) with
      | none =>
        have hin2 : i = n := by
          rcases Nat.lt_or_ge i n with h | h
          · exact absurd hrf2 (n3 i h)
          · omega
        subst hin2
        refine W.agI (a := 0) ?_
        refine W.condT (by rfl) ?_
        repeat' (with_reducible (first | refine W.aggK (by with_unfolding_all rfl) ?_ | refine W.ldGL (by assumption) (Nat.le_of_ble_eq_true (by with_unfolding_all rfl)) ?_))
        refine W.st0 hb4' (by rfl) fun τ7 L7 hnτ7 hb4' => ?_
        repeat' (with_reducible (first | refine W.stop ?_ | refine W.ret ?_ | refine W.ldGL (by assumption) (Nat.le_of_ble_eq_true (by with_unfolding_all rfl)) ?_))
        exact ⟨(LL.trans (L.trans L6)).ofk hl4lt L7, rfl, rfl⟩
      | some f =>
        obtain ⟨a, p, u, e, ha⟩ := fcells_some f
        rw [e]
        refine W.agI ?_
        refine W.condF (by simpa using ha) ?_
        repeat' (with_reducible refine W.next ?_)
        refine ⟨by omega, sk, L.trans L6, ?_⟩
        rcases Nat.lt_or_ge i n with h | h
        · omega
        · have : i = n := by omega
          subst this
          rw [n4 (by omega)] at hrf2; cases hrf2
    · have hi' : i = ss.length := by omega
      have hn' : n = ss.length := by omega
      repeat' (with_reducible (first | refine W.stop ?_ | refine W.aggK (by with_unfolding_all rfl) ?_ | refine W.len (by assumption) ?_ | refine W.ldGL (by assumption) (Nat.le_of_ble_eq_true (by with_unfolding_all rfl)) ?_))
      refine W.st0 hb4' (by rfl) fun τ7 L7 hnτ7 hb4' => ?_
      repeat' (with_reducible (first | refine W.ret ?_ | refine W.ldGL (by assumption) (Nat.le_of_ble_eq_true (by with_unfolding_all rfl)) ?_))
      exact ⟨(LL.trans L).ofk hl4lt L7, by rw [hn'], rfl⟩
end
end Go.Proofs.YtgneblbblihaoaaGreatDoor.A

/- DratSays, plain. -/
namespace Go.Proofs.YtgneblbblihaoaaGreatDoor.A
open Go
theorem saysLits_w {σ : Heap} {goal : List Int} {x p23 p24 p26 p28 : AVal} {p27 : Bool} (hx : SlV .int σ goal x) (hb : goal.length ≤ 1000000) : W (loopW (S.skolemlaw22_DratSays.b0 p23 p24 x p26 p27 p28) (.nils, 0) σ) fun r => Hle σ r.2 ∧ Acc .int σ.next r.2 (goal.map fun n => lit n 10) r.1 := by
  refine W.loop goal.length (fun i (z : AVal × Int) τ' => z.2 = (i : Int) ∧ Hle σ τ' ∧ Acc .int σ.next τ' ((goal.take i).map fun n => lit n 10) z.1) ⟨rfl, Hle.refl _, Acc.nil _ _ _⟩ fun i z τ' hi hI => ?_
  obtain ⟨z, j⟩ := z
  obtain ⟨rfl, L', hA⟩ := hI
  dsimp only at hA ⊢
  have hx' := hx.mono L'
  unfold S.skolemlaw22_DratSays.b0
  repeat' (with_reducible refine W.len (by assumption) ?_)
  (with_reducible refine W.cnd (fun hc => ?_) (fun hc => ?_) <;> (try simp only [q1, q2, q3, q4, q5, q6, q7, q8, q9, q10, q11, q12, q13, q14, q15, q16, q17, q18, q19, q20, q21, q22, q23, q24, q25, q26, q27, q28, q29, q30, Kd.ty] at hc) <;> (try (exfalso; omega)))
  · obtain ⟨n, hn⟩ : ∃ n, goal[i]? = some n := ⟨_, List.getElem?_eq_getElem (by omega)⟩
    repeat' (with_reducible (first | refine W.bind ?_ | refine W.ixIc (by assumption) (by assumption) ?_))
    refine W.to (lit_eq (by decide) (by decide)) ?_
    repeat' (with_reducible refine W.ret ?_)
    refine W.pushI hA L' (by simp; omega) (by simp; omega) fun x2 τ2 L2 hA2 _ => ?_
    repeat' (with_reducible refine W.next ?_)
    refine ⟨by omega, sk, L2, ?_⟩
    rw [List.take_add_one, hn, List.map_append]; exact hA2
  · repeat' (with_reducible refine W.stop ?_)
    rw [List.take_of_length_le (by omega)] at hA
    exact ⟨L', hA⟩
theorem dratSays_plain {σ : Heap} {l q goal : List Int} {ps : List (Bool × List Int)} {rv : Int} {rc : List (List Int)} {xl xp xq xg xr : AVal} (hg : GlAll σ) (hl : SlV .int σ l xl) (hp : SlV vB σ ps xp) (hq : SlV .int σ q xq) (hgo : SlV .int σ goal xg) (hrc : SlV vIs σ rc xr)
    (b1 : l.length ≤ 4611686018427387904) (b2 : q.length ≤ 4611686018427387904) (b3 : ps.length ≤ 4611686018427387904) (b4 : goal.length ≤ 4611686018427387904) (b5 : ∀ s ∈ ps, s.2.length ≤ 4611686018427387904) (b6 : rc.length ≤ 4611686018427387904) (b7 : ∀ c ∈ rc, c.length ≤ 140737488351232) :
    W (S.skolemlaw22_DratSays xl xp xq xg (.agg [.int .i64 rv, xr]) σ) fun r => r.1 = true := by
  have sub3 : ∀ {σ : Heap}, GlAll σ → GlS [.limit, .range, .proof] σ := fun h => h.sub (by decide)
  unfold S.skolemlaw22_DratSays
  repeat' (with_reducible refine W.aggK (by with_unfolding_all rfl) ?_)
  refine W.new fun l2 τ0 hl2 L0 hb2 hnτ0 => ?_
  replace hg := hg.mono L0
  replace hl := hl.mono L0
  replace hp := hp.mono L0
  replace hq := hq.mono L0
  replace hgo := hgo.mono L0
  replace hrc := hrc.mono L0
  have hnx := L0.next
  refine W.bind ?_
  refine W.mono (first22_w (sub3 hg)) fun r hr => ?_
  obtain ⟨b, τ⟩ := r
  obtain ⟨e, L⟩ := hr
  dsimp only at e L ⊢
  subst e
  replace hg := hg.mono L
  replace hl := hl.mono L
  replace hp := hp.mono L
  replace hq := hq.mono L
  replace hgo := hgo.mono L
  replace hrc := hrc.mono L
  replace hb2 := hb2.mono L
  have hnx := L.next
  refine W.condF rfl ?_
  refine W.call (P := fun r => r = true ∨ (l.length ≤ 80 ∧ q.length ≤ 60 ∧ (ps.length ≤ 30 ∧ ∀ s ∈ ps, s.2.length ≤ 12) ∧ goal.length ≤ 6 ∧ rc.length ≤ 20 ∧ rc.flatten.length ≤ 100)) ?_ fun r hr => ?_
  · repeat' (with_reducible refine W.len (by assumption) ?_)
    (with_reducible refine W.cnd (fun h1 => ?_) (fun h1 => ?_) <;> (try simp only [q1, q2, q3, q4, q5, q6, q7, q8, q9, q10, q11, q12, q13, q14, q15, q16, q17, q18, q19, q20, q21, q22, q23, q24, q25, q26, q27, q28, q29, q30, Kd.ty] at h1) <;> (try (exfalso; omega)))
    · repeat' (with_reducible refine W.ret ?_)
      exact .inl rfl
    · repeat' (with_reducible refine W.bind ?_)
      refine W.mono (light22_w hp b3 b5) fun r hr => ?_
      (with_reducible refine W.cnd (fun h3 => ?_) (fun h3 => ?_) <;> (try simp only [q1, q2, q3, q4, q5, q6, q7, q8, q9, q10, q11, q12, q13, q14, q15, q16, q17, q18, q19, q20, q21, q22, q23, q24, q25, q26, q27, q28, q29, q30, Kd.ty] at h3) <;> (try (exfalso; omega)))
      · repeat' (with_reducible refine W.ret ?_)
        exact .inl rfl
      · repeat' (with_reducible refine W.len (by assumption) ?_)
        (with_reducible refine W.cnd (fun h2 => ?_) (fun h2 => ?_) <;> (try simp only [q1, q2, q3, q4, q5, q6, q7, q8, q9, q10, q11, q12, q13, q14, q15, q16, q17, q18, q19, q20, q21, q22, q23, q24, q25, q26, q27, q28, q29, q30, Kd.ty] at h2) <;> (try (exfalso; omega)))
        · repeat' (with_reducible refine W.ret ?_)
          exact .inl rfl
        · repeat' (with_reducible refine W.len (by assumption) ?_)
          (with_reducible refine W.cnd (fun h4 => ?_) (fun h4 => ?_) <;> (try simp only [q1, q2, q3, q4, q5, q6, q7, q8, q9, q10, q11, q12, q13, q14, q15, q16, q17, q18, q19, q20, q21, q22, q23, q24, q25, q26, q27, q28, q29, q30, Kd.ty] at h4) <;> (try (exfalso; omega)))
          · repeat' (with_reducible refine W.ret ?_)
            exact .inl rfl
          · repeat' (with_reducible (first | refine W.asV ?_ | refine W.len (by assumption) ?_ | refine W.ldL (by assumption) (by with_unfolding_all rfl) ?_))
            (with_reducible refine W.cnd (fun h5 => ?_) (fun h5 => ?_) <;> (try simp only [q1, q2, q3, q4, q5, q6, q7, q8, q9, q10, q11, q12, q13, q14, q15, q16, q17, q18, q19, q20, q21, q22, q23, q24, q25, q26, q27, q28, q29, q30, Kd.ty] at h5) <;> (try (exfalso; omega)))
            · repeat' (with_reducible refine W.ret ?_)
              exact .inl rfl
            · repeat' (with_reducible (first | refine W.bind ?_ | refine W.asV ?_ | refine W.ldL (by assumption) (by with_unfolding_all rfl) ?_))
              obtain ⟨nb, enb, _⟩ := nearAll_eq hrc b6 fun c hc => by have := b7 c hc; omega
              refine W.to enb ?_
              repeat' (with_reducible refine W.ret ?_)
              (with_reducible refine W.cnd (fun h6 => ?_) (fun h6 => ?_) <;> (try simp only [q1, q2, q3, q4, q5, q6, q7, q8, q9, q10, q11, q12, q13, q14, q15, q16, q17, q18, q19, q20, q21, q22, q23, q24, q25, q26, q27, q28, q29, q30, Kd.ty] at h6) <;> (try (exfalso; omega)))
              · repeat' (with_reducible refine W.ret ?_)
                exact .inl rfl
              · repeat' (with_reducible (first | refine W.bind ?_ | refine W.asV ?_ | refine W.ldL (by assumption) (by with_unfolding_all rfl) ?_))
                refine W.to (count_eq hrc (by omega) fun c hc => by have := b7 c hc; omega) ?_
                repeat' (with_reducible refine W.ret ?_)
                (with_reducible refine W.cnd (fun h7 => ?_) (fun h7 => ?_) <;> (try simp only [q1, q2, q3, q4, q5, q6, q7, q8, q9, q10, q11, q12, q13, q14, q15, q16, q17, q18, q19, q20, q21, q22, q23, q24, q25, q26, q27, q28, q29, q30, Kd.ty] at h7) <;> (try (exfalso; omega)))
                · repeat' (with_reducible refine W.ret ?_)
                  exact .inl rfl
                · repeat' (with_reducible refine W.bind ?_)
                  obtain ⟨nb2, enb2, _⟩ := near_eq hgo b4
                  refine W.to enb2 ?_
                  repeat' (with_reducible refine W.ret ?_)
                  (with_reducible refine W.cnd (fun h8 => ?_) (fun h8 => ?_) <;> (try simp only [q1, q2, q3, q4, q5, q6, q7, q8, q9, q10, q11, q12, q13, q14, q15, q16, q17, q18, q19, q20, q21, q22, q23, q24, q25, q26, q27, q28, q29, q30, Kd.ty] at h8) <;> (try (exfalso; omega)))
                  · repeat' (with_reducible refine W.ret ?_)
                    exact .inl rfl
                  · repeat' (with_reducible (first | refine W.ret ?_ | refine W.asI ?_ | refine W.ldL (by assumption) (by with_unfolding_all rfl) ?_))
                    obtain ⟨k1, k2⟩ := hr h3
                    exact .inr ⟨by omega, by omega, ⟨k1, fun s hs => (k2 s hs).1⟩, by omega, by omega, by omega⟩
  cases r with
  | true =>
    repeat' (first | (with_reducible refine W.ret ?_) | (with_reducible refine W.condT ?_ ?_; focus (first | (simp only [q1, q2, q3, q4, q5, q6, q7, q8, q9, q10, q11, q12, q13, q14, q15, q16, q17, q18, q19, q20, q21, q22, q23, q24, q25, q26, q27, q28, q29, q30, Kd.ty]; done) | (simp only [q1, q2, q3, q4, q5, q6, q7, q8, q9, q10, q11, q12, q13, q14, q15, q16, q17, q18, q19, q20, q21, q22, q23, q24, q25, q26, q27, q28, q29, q30, Kd.ty]; omega) | assumption)))
    rfl
  | false =>
    obtain ⟨c1, c2, ⟨c3, c4⟩, c5, c6, c7⟩ := hr.resolve_left (by decide)
    refine W.condF rfl ?_
    refine W.call (cnf_w (vars := 8) hl (by omega) (by decide)) fun r hr => ?_
    obtain ⟨y, τ2⟩ := r
    obtain ⟨L2, y, e, hA⟩ := hr
    dsimp only at e L2 ⊢
    subst e
    have hcs := SlV.ofIsF hA.sl
    obtain ⟨k1, k2, k3⟩ := clausesOf_ok l 8
    generalize clausesOf l 8 = cs at *
    replace hg := hg.mono L2
    replace hp := hp.mono L2
    replace hq := hq.mono L2
    replace hgo := hgo.mono L2
    replace hrc := hrc.mono L2
    replace hb2 := hb2.mono L2
    have hnx := L2.next
    refine W.new fun lc τ3 hlc L3 h3 hnτ3 => ?_
    repeat' (with_reducible refine W.aggK (by with_unfolding_all rfl) ?_)
    refine W.st0 h3 (by rfl) fun τ4 L4 hnτ4 h3 => ?_
    have L4 := L3.ofk (by omega) L4
    replace hg := hg.mono L4
    replace hp := hp.mono L4
    replace hq := hq.mono L4
    replace hgo := hgo.mono L4
    replace hrc := hrc.mono L4
    replace hb2 := hb2.mono L4
    replace hcs := hcs.mono L4
    have hnx := L4.next
    repeat' (with_reducible refine W.bind ?_)
    refine W.mono (saysLits_w hgo (by omega)) fun r hr => ?_
    obtain ⟨g, τ5⟩ := r
    obtain ⟨L5, hG⟩ := hr
    dsimp only at L5 hG ⊢
    have hG := hG.sl
    have hgll : (goal.map fun n => lit n 10).length ≤ 6 := by simpa using c5
    generalize goal.map (fun n => lit n 10) = gs at *
    replace hg := hg.mono L5
    replace hp := hp.mono L5
    replace hq := hq.mono L5
    replace hrc := hrc.mono L5
    replace hb2 := hb2.mono L5
    replace hcs := hcs.mono L5
    replace h3 := h3.mono L5
    have hnx := L5.next
    repeat' (with_reducible refine W.bind ?_)
    refine W.mono (steps22_w hq (by omega)) fun r hr => ?_
    obtain ⟨z, τ6⟩ := r
    obtain ⟨L6, ss, hss, hssl⟩ := hr
    dsimp only at L6 hss ⊢
    replace hg := hg.mono L6
    replace hp := hp.mono L6
    replace hrc := hrc.mono L6
    replace hb2 := hb2.mono L6
    replace hcs := hcs.mono L6
    replace h3 := h3.mono L6
    replace hG := hG.mono L6
    have hnx := L6.next
    obtain ⟨j1, j2, j3⟩ := clausesOf_ok q 9
    have hsl := litsOf_len ss
    rw [hssl] at hsl
    have hfl : (litsOf ss).flatten.length ≤ 1000000000 := by rw [hssl]; omega
    have hfl2 := flat12 c4
    repeat' (with_reducible (first | refine W.bind ?_ | refine W.ldGL (by assumption) (Nat.le_of_ble_eq_true (by with_unfolding_all rfl)) ?_))
    refine W.mono (used_w (vars := 8) (sub3 hg) hcs hss (by omega) (by omega) hfl (by omega)) fun r hr => ?_
    obtain ⟨⟨n1, v1⟩, τ7⟩ := r
    obtain ⟨L7, en, hF1⟩ := hr
    dsimp only at L7 en hF1 ⊢
    replace hg := hg.mono L7
    replace hp := hp.mono L7
    replace hrc := hrc.mono L7
    replace hb2 := hb2.mono L7
    replace hcs := hcs.mono L7
    replace h3 := h3.mono L7
    replace hG := hG.mono L7
    replace hss := hss.mono L7
    have hnx := L7.next
    repeat' (with_reducible (first | refine W.bind ?_ | refine W.ldGL (by assumption) (Nat.le_of_ble_eq_true (by with_unfolding_all rfl)) ?_))
    refine W.mono (refUsed_w (vars := 8) hcs hss (by omega) (by omega) hfl (by omega)) fun r hr => ?_
    obtain ⟨⟨m1, v2⟩, τ8⟩ := r
    obtain ⟨L8, em, eF⟩ := hr
    dsimp only at L8 em eF ⊢
    subst eF
    replace hg := hg.mono L8
    replace hp := hp.mono L8
    replace hrc := hrc.mono L8
    replace hb2 := hb2.mono L8
    replace hcs := hcs.mono L8
    replace h3 := h3.mono L8
    replace hG := hG.mono L8
    replace hss := hss.mono L8
    replace hF1 := hF1.mono L8
    have hnx := L8.next
    refine W.new fun lf τ9 hlf L9 hbf hnτ9 => ?_
    refine W.aggK (fcells_len _) ?_
    refine W.st0 hbf (by rw [fcells_len]; rfl) fun τ10 L10 hn10 hbf => ?_
    have L10 := L9.ofk (by omega) L10
    replace hg := hg.mono L10
    replace hp := hp.mono L10
    replace hrc := hrc.mono L10
    replace hb2 := hb2.mono L10
    replace hcs := hcs.mono L10
    replace h3 := h3.mono L10
    replace hG := hG.mono L10
    replace hss := hss.mono L10
    replace hF1 := hF1.mono L10
    have hnx := L10.next
    have same : ∀ {τ : Heap} {v : AVal} {f : Flt}, GlAll τ → IsF τ v f → W (S.skolemsee_Same v (.agg (fcells f)) τ) fun r => r.1 = true ∧ Hle τ r.2 := fun hg hF => (see_w hg hF).mono fun r hr => ⟨by rw [hr.1]; simp, hr.2⟩
    refine W.bind ?_
    refine W.condT rfl ?_
    have h3a := h3
    repeat' (with_reducible (first | refine W.bind ?_ | refine W.ldGL (by assumption) (Nat.le_of_ble_eq_true (by with_unfolding_all rfl)) ?_))
    refine W.mono (refute_w (vars := 8) (sub3 hg) hcs hp (by omega) (by omega) (by omega) (by omega)) fun r hr => ?_
    obtain ⟨v11, τ11⟩ := r
    obtain ⟨L11, hF⟩ := hr
    dsimp only at L11 hF ⊢
    replace hg := hg.mono L11
    replace hp := hp.mono L11
    replace hrc := hrc.mono L11
    replace hb2 := hb2.mono L11
    replace hcs := hcs.mono L11
    replace h3 := h3.mono L11
    replace hG := hG.mono L11
    replace hss := hss.mono L11
    replace hF1 := hF1.mono L11
    replace hbf := hbf.mono L11
    have hnx := L11.next
    repeat' (with_reducible (first | refine W.bind ?_ | refine W.chk rfl ?_ | refine W.ldGL (by assumption) (Nat.le_of_ble_eq_true (by with_unfolding_all rfl)) ?_))
    refine W.mono (refRefute_w (vars := 8) hcs hp (by omega) (by omega) (by omega) (by omega)) fun r hr => ?_
    obtain ⟨v12, τ12⟩ := r
    obtain ⟨L12, e⟩ := hr
    dsimp only at L12 e ⊢
    subst e
    replace hg := hg.mono L12
    replace hp := hp.mono L12
    replace hrc := hrc.mono L12
    replace hb2 := hb2.mono L12
    replace hcs := hcs.mono L12
    replace h3 := h3.mono L12
    replace hG := hG.mono L12
    replace hss := hss.mono L12
    replace hF1 := hF1.mono L12
    replace hbf := hbf.mono L12
    replace hF := hF.mono L12
    have hnx := L12.next
    repeat' (with_reducible refine W.bind ?_)
    refine W.mono (same hg hF) fun r hr => ?_
    obtain ⟨b13, τ13⟩ := r
    obtain ⟨e, L13⟩ := hr
    dsimp only at e L13 ⊢
    subst e
    replace hg := hg.mono L13
    replace hp := hp.mono L13
    replace hrc := hrc.mono L13
    replace hb2 := hb2.mono L13
    replace hcs := hcs.mono L13
    replace h3 := h3.mono L13
    replace hG := hG.mono L13
    replace hss := hss.mono L13
    replace hF1 := hF1.mono L13
    replace hbf := hbf.mono L13
    have hnx := L13.next
    clear hF
    refine W.condT rfl ?_
    have h3b := h3
    repeat' (with_reducible (first | refine W.bind ?_ | refine W.ldGL (by assumption) (Nat.le_of_ble_eq_true (by with_unfolding_all rfl)) ?_))
    refine W.mono (refute_w (vars := 8) (sub3 hg) hcs hss (by omega) (by omega) hfl (by omega)) fun r hr => ?_
    obtain ⟨v14, τ14⟩ := r
    obtain ⟨L14, hF⟩ := hr
    dsimp only at L14 hF ⊢
    replace hg := hg.mono L14
    replace hp := hp.mono L14
    replace hrc := hrc.mono L14
    replace hb2 := hb2.mono L14
    replace hcs := hcs.mono L14
    replace h3 := h3.mono L14
    replace hG := hG.mono L14
    replace hss := hss.mono L14
    replace hF1 := hF1.mono L14
    replace hbf := hbf.mono L14
    have hnx := L14.next
    repeat' (with_reducible (first | refine W.bind ?_ | refine W.chk rfl ?_ | refine W.ldGL (by assumption) (Nat.le_of_ble_eq_true (by with_unfolding_all rfl)) ?_))
    refine W.mono (refRefute_w (vars := 8) hcs hss (by omega) (by omega) hfl (by omega)) fun r hr => ?_
    obtain ⟨v15, τ15⟩ := r
    obtain ⟨L15, e⟩ := hr
    dsimp only at L15 e ⊢
    subst e
    replace hg := hg.mono L15
    replace hp := hp.mono L15
    replace hrc := hrc.mono L15
    replace hb2 := hb2.mono L15
    replace hcs := hcs.mono L15
    replace h3 := h3.mono L15
    replace hG := hG.mono L15
    replace hss := hss.mono L15
    replace hF1 := hF1.mono L15
    replace hbf := hbf.mono L15
    replace hF := hF.mono L15
    have hnx := L15.next
    repeat' (with_reducible refine W.bind ?_)
    refine W.mono (same hg hF) fun r hr => ?_
    obtain ⟨b16, τ16⟩ := r
    obtain ⟨e, L16⟩ := hr
    dsimp only at e L16 ⊢
    subst e
    replace hg := hg.mono L16
    replace hp := hp.mono L16
    replace hrc := hrc.mono L16
    replace hb2 := hb2.mono L16
    replace hcs := hcs.mono L16
    replace h3 := h3.mono L16
    replace hG := hG.mono L16
    replace hss := hss.mono L16
    replace hF1 := hF1.mono L16
    replace hbf := hbf.mono L16
    have hnx := L16.next
    clear hF
    refine W.condT rfl ?_
    have h3c := h3
    repeat' (with_reducible (first | refine W.bind ?_ | refine W.ldGL (by assumption) (Nat.le_of_ble_eq_true (by with_unfolding_all rfl)) ?_))
    refine W.mono (derive_w (vars := 8) (sub3 hg) hcs hss hG (by omega) (by omega) hfl (by omega) (by omega)) fun r hr => ?_
    obtain ⟨v17, τ17⟩ := r
    obtain ⟨L17, hF⟩ := hr
    dsimp only at L17 hF ⊢
    replace hg := hg.mono L17
    replace hp := hp.mono L17
    replace hrc := hrc.mono L17
    replace hb2 := hb2.mono L17
    replace hcs := hcs.mono L17
    replace h3 := h3.mono L17
    replace hG := hG.mono L17
    replace hss := hss.mono L17
    replace hF1 := hF1.mono L17
    replace hbf := hbf.mono L17
    have hnx := L17.next
    repeat' (with_reducible (first | refine W.bind ?_ | refine W.chk rfl ?_ | refine W.ldGL (by assumption) (Nat.le_of_ble_eq_true (by with_unfolding_all rfl)) ?_))
    refine W.mono (refDerive_w (vars := 8) hcs hss hG (by omega) (by omega) hfl (by omega) (by omega)) fun r hr => ?_
    obtain ⟨v18, τ18⟩ := r
    obtain ⟨L18, e⟩ := hr
    dsimp only at L18 e ⊢
    subst e
    replace hg := hg.mono L18
    replace hp := hp.mono L18
    replace hrc := hrc.mono L18
    replace hb2 := hb2.mono L18
    replace hF1 := hF1.mono L18
    replace hbf := hbf.mono L18
    replace hF := hF.mono L18
    have hnx := L18.next
    repeat' (with_reducible refine W.bind ?_)
    refine W.mono (same hg hF) fun r hr => ?_
    obtain ⟨b19, τ19⟩ := r
    obtain ⟨e, L19⟩ := hr
    dsimp only at e L19 ⊢
    subst e
    replace hg := hg.mono L19
    replace hp := hp.mono L19
    replace hrc := hrc.mono L19
    replace hb2 := hb2.mono L19
    replace hF1 := hF1.mono L19
    replace hbf := hbf.mono L19
    have hnx := L19.next
    clear hF
    refine W.condT rfl ?_
    have hb2a := hb2
    repeat' (with_reducible (first | refine W.bind ?_ | refine W.ldGL (by assumption) (Nat.le_of_ble_eq_true (by with_unfolding_all rfl)) ?_))
    refine W.mono (refute_w (vars := rv) (sub3 hg) hrc hp (by omega) (by omega) (by omega) (by omega)) fun r hr => ?_
    obtain ⟨v20, τ20⟩ := r
    obtain ⟨L20, hF⟩ := hr
    dsimp only at L20 hF ⊢
    replace hg := hg.mono L20
    replace hp := hp.mono L20
    replace hrc := hrc.mono L20
    replace hb2 := hb2.mono L20
    replace hF1 := hF1.mono L20
    replace hbf := hbf.mono L20
    have hnx := L20.next
    repeat' (with_reducible (first | refine W.bind ?_ | refine W.chk rfl ?_ | refine W.ldGL (by assumption) (Nat.le_of_ble_eq_true (by with_unfolding_all rfl)) ?_))
    refine W.mono (refRefute_w (vars := rv) hrc hp (by omega) (by omega) (by omega) (by omega)) fun r hr => ?_
    obtain ⟨v21, τ21⟩ := r
    obtain ⟨L21, e⟩ := hr
    dsimp only at L21 e ⊢
    subst e
    replace hg := hg.mono L21
    replace hF1 := hF1.mono L21
    replace hbf := hbf.mono L21
    replace hF := hF.mono L21
    have hnx := L21.next
    repeat' (with_reducible refine W.bind ?_)
    refine W.mono (same hg hF) fun r hr => ?_
    obtain ⟨b22, τ22⟩ := r
    obtain ⟨e, L22⟩ := hr
    dsimp only at e L22 ⊢
    subst e
    replace hg := hg.mono L22
    replace hF1 := hF1.mono L22
    replace hbf := hbf.mono L22
    have hnx := L22.next
    clear hF
    refine W.condT rfl ?_
    refine W.condT (by rw [en, em]; simp) ?_
    obtain ⟨a, p, u, ef⟩ := fcells_eq (usedF 8 cs ss).2
    rw [ef] at hbf
    repeat' (with_reducible (first | refine W.bind ?_ | refine W.ldGL (by assumption) (Nat.le_of_ble_eq_true (by with_unfolding_all rfl)) ?_))
    have hs := same hg hF1
    rw [ef] at hs
    refine W.mono hs fun r hr => ?_
    repeat' (with_reducible refine W.ret ?_)
    exact hr.1
end Go.Proofs.YtgneblbblihaoaaGreatDoor.A
