/- Parts of the proof, one behind another. -/
import Derived.Test.YtgneblbblihaoaaDoorX7
set_option linter.all false
/- Formulas, checked by the reference; equal games. -/
namespace Go.Proofs.YtgneblbblihaoaaDoor.A
open Go

theorem scanV_len {vars : Int} : ∀ {vs seen s : List Int}, scanV vars seen vs = some s → s.length = seen.length + vs.length
  | [], seen, s, h => by simp [scanV] at h; simp [h]
  | v :: vs, seen, s, h => by
    rw [scanV] at h
    split at h
    · cases h
    · have := scanV_len h; simp at this ⊢; omega

theorem refScan_w {σ0 : Heap} {vars : Int} {bs : List (Bool × List Int)} {b : Bool × List Int} {vs : List Int} {k : Nat} {lf l : Nat} {x q w : AVal} {us : List AVal} (hf : Loc σ0 lf [x, .int .i64 vars, q]) (hb : SlV vB σ0 bs x) (hk : bs[k]? = some b) (hx : b.2 = vs) (hlen : vs.length ≤ 1000000000)
    (hls : us.length = 3) (h4 : Loc σ0 l us) {σ : Heap} (L : Hle σ0 σ) {seen : List Int} (hA : Acc .int σ0.next σ seen w) (hsl : seen.length ≤ 1000000000) :
    W (loopW (S.skolemref1_CheckFormula.b0 (.ptr lf 0) (.ptr l 0) (k : Int)) (w, 0) σ) fun r => match scanV vars seen vs with
      | none => (∃ u, r.1 = .inr u) ∧ Hle (σ0.kill l) r.2 ∧ Loc r.2 l (fcells (some (.range, some (k : Int))))
      | some s => ∃ y, r.1 = .inl y ∧ Hle σ0 r.2 ∧ Acc .int σ0.next r.2 s y := by
  refine W.loop vs.length (fun i y τ => y.2 = (i : Int) ∧ Hle σ0 τ ∧ ∃ s, Acc .int σ0.next τ s y.1 ∧ s.length = seen.length + i ∧ scanV vars seen vs = scanV vars s (vs.drop i)) ⟨rfl, L, seen, hA, rfl, by simp⟩ fun i y τ hi hI => ?_
  obtain ⟨y, j⟩ := y
  obtain ⟨rfl, L, s, hA, hl, e⟩ := hI
  rw [e]
  have hf' := hf.mono L
  unfold S.skolemref1_CheckFormula.b0
  dsimp only
  repeat' (with_reducible (first | refine W.asV ?_ | refine W.fldp ?_ | refine W.ldL (by assumption) (by with_unfolding_all rfl) ?_))
  refine W.ixkL hb L hk fun p us hp hr => ?_
  obtain ⟨z, rfl, hz⟩ := vB_rel hr
  have hp' := hp.mono L
  rw [hx] at hz
  have hz' := hz.mono L
  repeat' (with_reducible (first | refine W.asV ?_ | refine W.len (by assumption) ?_ | refine W.fldld (by assumption) (by with_unfolding_all rfl) ?_))
  (with_reducible refine W.cnd (fun hc => ?_) (fun hc => ?_) <;> (try simp only [q1, q2, q3, q4, q5, q6, q7, q8, q9, q10, q11, q12, q13, q14, q15, q16, q17, q18, q19, q20, q21, q22, q23, q24, q25, q26, q27, q28, q29, q30] at hc) <;> (try (exfalso; omega)))
  · repeat' (with_reducible (first | refine W.asV ?_ | refine W.fldp ?_ | refine W.ldL (by assumption) (by with_unfolding_all rfl) ?_))
    refine W.ixkL hb L hk fun p us hp hr => ?_
    obtain ⟨z', rfl, hz⟩ := vB_rel hr
    have hp' := hp.mono L
    rw [hx] at hz
    have hz' := hz.mono L
    repeat' (with_reducible (first | refine W.asV ?_ | refine W.fldld (by assumption) (by with_unfolding_all rfl) ?_))
    refine W.ixInc hz' (by omega) fun v hv => ?_
    rw [drop_at hv, scanV] at e ⊢
    have hbad : W ((cond (decide (v < 1)) (some true) (fld (.ptr lf 0) 1 fun a42 => fld a42 0 fun a43 => ld τ a43 (.I .i64) fun n44 => cond (decide (v > n44)) (some true) ((S.skolemref_Has y v τ).bind fun r45 => some r45)))) fun r => r = decide (v < 1 ∨ v > vars ∨ v ∈ s) := by
      repeat' (first | (with_reducible (first | refine W.ret ?_ | refine W.bind ?_ | refine W.asI ?_ | refine W.fldp ?_ | refine W.ldL (by assumption) (by with_unfolding_all rfl) ?_)) | (with_reducible refine W.cnd (fun hc => ?_) (fun hc => ?_) <;> (try simp only [q1, q2, q3, q4, q5, q6, q7, q8, q9, q10, q11, q12, q13, q14, q15, q16, q17, q18, q19, q20, q21, q22, q23, q24, q25, q26, q27, q28, q29, q30] at hc) <;> (try (exfalso; omega))))
      · simp [*]
      · simp [*]
      · refine W.to (has_eq hA.sl (by omega)) ?_
        repeat' (with_reducible refine W.ret ?_)
        have : ¬ v < 1 := by omega
        have : ¬ v > vars := by omega
        simp [*]
    refine W.call hbad fun r hr => ?_
    subst hr
    (with_reducible refine W.cnd (fun hq => ?_) (fun hq => ?_) <;> (try simp only [q1, q2, q3, q4, q5, q6, q7, q8, q9, q10, q11, q12, q13, q14, q15, q16, q17, q18, q19, q20, q21, q22, q23, q24, q25, q26, q27, q28, q29, q30] at hq) <;> (try (exfalso; omega)))
    · refine W.call (placed_w (by decide)) fun r hr => ?_
      obtain ⟨r, τ3⟩ := r; obtain ⟨hr, L3⟩ := hr; dsimp only at hr L3 ⊢; subst hr
      have h4' := (h4.mono L).mono L3
      repeat' (with_reducible refine W.aggK (by with_unfolding_all rfl) ?_)
      refine W.st0 h4' (by rw [hls]; rfl) fun τ4 L4 hn4 h4'' => ?_
      repeat' (with_reducible refine W.stop ?_)
      rw [if_pos hq]
      exact ⟨⟨_, rfl⟩, ((L.mono L3).killed l).mono L4, h4''⟩
    · refine W.pushI hA L (by omega) (by omega) fun x' τ2 L2 hA2 _ => ?_
      repeat' (with_reducible refine W.next ?_)
      rw [if_neg hq]
      exact ⟨by omega, sk, L2, _, hA2, by simp; omega, rfl⟩
  · repeat' (with_reducible refine W.stop ?_)
    rw [List.drop_eq_nil_of_le (by omega), scanV]
    exact ⟨y, rfl, L, hA⟩

theorem fcells_code {f : Flt} {a : Int} {b : Bool} {c : Int} (h : fcells f = [.int .i64 a, .bool b, .int .i64 c]) : (a != 0) = f.isSome := by
  cases f with
  | none => simp [fcells] at h; simp [← h.1]
  | some f =>
    obtain ⟨e, q⟩ := f
    have : a = e.code := by cases q <;> simp [fcells] at h <;> exact h.1.symm
    have := e.code_ne
    simp [*]
theorem refCheckF_w {σ : Heap} {vars : Int} {bs : List (Bool × List Int)} {cs : List (List Int)} {xb xc : AVal} (hb : SlV vB σ bs xb) (hc : SlV vIs σ cs xc) (h1 : cs.flatten.length ≤ 1000000000) (h2 : cs.length ≤ 1000000000) (h3 : bs.length ≤ 1000000000)
    (h4 : total bs ≤ 1000000000) : W (S.skolemref1_CheckFormula (.agg [xb, .int .i64 vars, xc]) σ) fun r => r.1 = .agg (fcells (chkF bs vars cs)) ∧ Hle σ r.2 := by
  unfold S.skolemref1_CheckFormula
  repeat' (with_reducible refine W.aggK (by with_unfolding_all rfl) ?_)
  refine W.new fun lf τ hlf L hf hnτ => ?_
  refine W.new fun l τ2 hl L2 hl2 hnτ2 => ?_
  replace hf := hf.mono L2
  replace L := L.mono L2
  have hnx := L2.next
  repeat' (with_reducible (first | refine W.bind ?_ | refine W.ldGL (by assumption) (Nat.le_of_ble_eq_true (by with_unfolding_all rfl)) ?_))
  refine W.mono (refCheckCNF_w (vars := vars) (hc.mono L) h1 h2) fun r hr => ?_
  obtain ⟨r, τ3⟩ := r; obtain ⟨hr, L3⟩ := hr; dsimp only at hr L3 ⊢; subst hr
  replace hf := hf.mono L3
  replace hl2 := hl2.mono L3
  replace L := L.mono L3
  have hnx := L3.next
  refine W.new fun l8 τ4 hl8 L4 h8 hnτ4 => ?_
  replace hf := hf.mono L4
  replace hl2 := hl2.mono L4
  replace L := L.mono L4
  have hnx := L4.next
  obtain ⟨ca, cb, cc, ec⟩ := fcells_eq (chkC vars cs)
  rw [ec]
  repeat' (with_reducible refine W.aggK (by with_unfolding_all rfl) ?_)
  refine W.st0 h8 (by rfl) fun τ5 L5 hnτ5 h8 => ?_
  have hf5 := (hf.kill (k := l8) (by omega)).mono L5
  have hl5 := (hl2.kill (k := l8) (by omega)).mono L5
  replace L := L.ofk (by omega) L5
  repeat' (with_reducible (first | refine W.asI ?_ | refine W.ldL (by assumption) (by with_unfolding_all rfl) ?_))
  rw [fcells_code ec]
  unfold chkF
  cases hq : chkC vars cs with
  | some f =>
    rw [hq] at ec
    repeat' (first | (with_reducible (first | refine W.aggK (by with_unfolding_all rfl) ?_ | refine W.ldGL (by assumption) (Nat.le_of_ble_eq_true (by with_unfolding_all rfl)) ?_)) | (with_reducible refine W.condT ?_ ?_; focus (first | (simp only [q1, q2, q3, q4, q5, q6, q7, q8, q9, q10, q11, q12, q13, q14, q15, q16, q17, q18, q19, q20, q21, q22, q23, q24, q25, q26, q27, q28, q29, q30]; done) | (simp only [q1, q2, q3, q4, q5, q6, q7, q8, q9, q10, q11, q12, q13, q14, q15, q16, q17, q18, q19, q20, q21, q22, q23, q24, q25, q26, q27, q28, q29, q30]; omega) | assumption)))
    refine W.st0 hl5 (by rfl) fun τ6 L6 hnτ6 hl5 => ?_
    repeat' (with_reducible (first | refine W.ret ?_ | refine W.ldGL (by assumption) (Nat.le_of_ble_eq_true (by with_unfolding_all rfl)) ?_))
    exact ⟨congrArg AVal.agg ec.symm, L.ofk (by omega) L6⟩
  | none =>
    repeat' (first | (with_reducible refine W.bind ?_) | (with_reducible refine W.condF ?_ ?_; focus (first | (simp only [q1, q2, q3, q4, q5, q6, q7, q8, q9, q10, q11, q12, q13, q14, q15, q16, q17, q18, q19, q20, q21, q22, q23, q24, q25, q26, q27, q28, q29, q30]; done) | (simp only [q1, q2, q3, q4, q5, q6, q7, q8, q9, q10, q11, q12, q13, q14, q15, q16, q17, q18, q19, q20, q21, q22, q23, q24, q25, q26, q27, q28, q29, q30]; omega) | assumption)))
    refine W.loop bs.length (fun i y τ => y.2 = (i : Int) ∧ Hle τ5 τ ∧ ∃ s, Acc .int τ5.next τ s y.1 ∧ s.length ≤ total (bs.take i) ∧ chkB vars 0 [] bs = chkB vars i s (bs.drop i)) ⟨rfl, Hle.refl _, [], Acc.nil .., by simp, by simp⟩ fun i y τ hi hI => ?_
    obtain ⟨y, j⟩ := y
    obtain ⟨rfl, L', s, hA, hsl, e⟩ := hI
    rw [e]
    have hft := hf5.mono L'
    have hlt := hl5.mono L'
    have htl := total_take bs i
    unfold S.skolemref1_CheckFormula.b1
    dsimp only
    repeat' (with_reducible (first | refine W.asV ?_ | refine W.fldp ?_ | refine W.len (by assumption) ?_ | refine W.ldL (by assumption) (by with_unfolding_all rfl) ?_))
    (with_reducible refine W.cnd (fun hc => ?_) (fun hc => ?_) <;> (try simp only [q1, q2, q3, q4, q5, q6, q7, q8, q9, q10, q11, q12, q13, q14, q15, q16, q17, q18, q19, q20, q21, q22, q23, q24, q25, q26, q27, q28, q29, q30] at hc) <;> (try (exfalso; omega)))
    · repeat' (with_reducible refine W.bind ?_)
      obtain ⟨b, hbi⟩ : ∃ b, bs[i]? = some b := ⟨_, List.getElem?_eq_getElem (by omega)⟩
      have hbl := total_mem (List.mem_of_getElem? hbi)
      refine W.mono (refScan_w hf5 (hb.mono L) hbi rfl (by omega) rfl hl5 L' hA (by omega)) fun r hr => ?_
      obtain ⟨r, τ6⟩ := r
      rw [drop_at hbi, chkB]
      cases hsc : scanV vars s b.2 with
      | none =>
        rw [hsc] at hr
        obtain ⟨⟨u, hu⟩, L6, h6⟩ := hr
        simp only at hu L6 h6; subst hu
        repeat' (with_reducible (first | refine W.stop ?_ | refine W.ret ?_ | refine W.ldGL (by assumption) (Nat.le_of_ble_eq_true (by with_unfolding_all rfl)) ?_))
        exact ⟨rfl, L.ofk (by omega) L6⟩
      | some s' =>
        rw [hsc] at hr
        obtain ⟨y', hu, L6, hA6⟩ := hr
        simp only at hu L6 hA6; subst hu
        repeat' (with_reducible refine W.next ?_)
        refine ⟨by omega, sk, L6, s', hA6, ?_, rfl⟩
        rw [scanV_len hsc, List.take_add_one, hbi, total_append]
        simp [total] at hsl ⊢; omega
    · repeat' (with_reducible (first | refine W.stop ?_ | refine W.bind ?_))
      rw [List.drop_eq_nil_of_le (by omega), chkB]
      refine W.mono none_w fun r hr => ?_
      obtain ⟨r, τ6⟩ := r; obtain ⟨hr, L6⟩ := hr; dsimp only at hr L6 ⊢; subst hr
      replace hlt := hlt.mono L6
      have hnx := L6.next
      repeat' (with_reducible refine W.aggK (by with_unfolding_all rfl) ?_)
      refine W.st0 hlt (by rfl) fun τ7 L7 hnτ7 hlt => ?_
      repeat' (with_reducible (first | refine W.ret ?_ | refine W.ldGL (by assumption) (Nat.le_of_ble_eq_true (by with_unfolding_all rfl)) ?_))
      exact ⟨rfl, L.ofk (by omega) (((L'.mono L6).killed l).mono L7)⟩

theorem sameGame_w {σ : Heap} {e e' : Bool} {o o' i i' : List Int} {c c' : List (List Int)} {vo vo' vi vi' vc vc' : AVal} (h1 : SlV .int σ o vo) (h2 : SlV .int σ o' vo') (h3 : SlV .int σ i vi) (h4 : SlV .int σ i' vi') (h5 : SlV vIs σ c vc) (h6 : SlV vIs σ c' vc')
    (b1 : o.length ≤ 1000000) (b2 : i.length ≤ 1000000) (b3 : c.length ≤ 1000000) (b4 : ∀ a ∈ c, a.length ≤ 1000000) : W (S.skolemref_SameGame (.agg [.bool e, vo, vi, vc]) (.agg [.bool e', vo', vi', vc']) σ) fun r => r.1 = decide (e = e' ∧ o = o' ∧ i = i' ∧ c = c') ∧ Hle σ r.2 := by
  unfold S.skolemref_SameGame
  repeat' (with_reducible refine W.aggK (by with_unfolding_all rfl) ?_)
  refine W.new fun l τ hl L h hnτ => ?_
  repeat' (with_reducible refine W.aggK (by with_unfolding_all rfl) ?_)
  refine W.new fun l2 τ2 hl2 L2 h2' hnτ2 => ?_
  replace h := h.mono L2
  replace L := L.mono L2
  have hnx := L2.next
  repeat' (with_reducible (first | refine W.bind ?_ | refine W.asB ?_ | refine W.ldL (by assumption) (by with_unfolding_all rfl) ?_))
  (with_reducible refine W.cnd (fun hc => ?_) (fun hc => ?_) <;> (try simp only [q1, q2, q3, q4, q5, q6, q7, q8, q9, q10, q11, q12, q13, q14, q15, q16, q17, q18, q19, q20, q21, q22, q23, q24, q25, q26, q27, q28, q29, q30] at hc) <;> (try (exfalso; omega)))
  · repeat' (with_reducible (first | refine W.bind ?_ | refine W.asV ?_ | refine W.ldL (by assumption) (by with_unfolding_all rfl) ?_))
    refine W.to (sameInts_eq (h1.mono L) (h2.mono L) b1) ?_
    repeat' (first | (with_reducible (first | refine W.ret ?_ | refine W.bind ?_ | refine W.asV ?_ | refine W.ldL (by assumption) (by with_unfolding_all rfl) ?_)) | (with_reducible refine W.cnd (fun hc => ?_) (fun hc => ?_) <;> (try simp only [q1, q2, q3, q4, q5, q6, q7, q8, q9, q10, q11, q12, q13, q14, q15, q16, q17, q18, q19, q20, q21, q22, q23, q24, q25, q26, q27, q28, q29, q30] at hc) <;> (try (exfalso; omega))))
    · refine W.to (sameInts_eq (h3.mono L) (h4.mono L) b2) ?_
      repeat' (first | (with_reducible (first | refine W.ret ?_ | refine W.bind ?_ | refine W.asV ?_ | refine W.ldL (by assumption) (by with_unfolding_all rfl) ?_)) | (with_reducible refine W.cnd (fun hc => ?_) (fun hc => ?_) <;> (try simp only [q1, q2, q3, q4, q5, q6, q7, q8, q9, q10, q11, q12, q13, q14, q15, q16, q17, q18, q19, q20, q21, q22, q23, q24, q25, q26, q27, q28, q29, q30] at hc) <;> (try (exfalso; omega))))
      · refine W.to (sameClauses_eq (h5.mono L) (h6.mono L) b3 b4) ?_
        repeat' (with_reducible refine W.ret ?_)
        exact ⟨by simp [*], L⟩
      · exact ⟨by simp [*], L⟩
    · exact ⟨by simp [*], L⟩
  · repeat' (with_reducible refine W.ret ?_)
    exact ⟨by simp [*], L⟩
end Go.Proofs.YtgneblbblihaoaaDoor.A

/- Copies; free variables; merged blocks, by the reference. -/
namespace Go.Proofs.YtgneblbblihaoaaDoor.A
open Go

section
variable {α β : Type} {v : Vw α} {σ τ : Heap} {xs : List α} {x : AVal} {n0 m : Nat}
theorem Acc.below (h : Acc v n0 σ xs x) : ∀ l off len c, x = .sl l off len c → l < σ.next := fun l off len c e => (h.loc l off len c e).2
/-- A newer list of plain data lies outside of an older object. -/
theorem Acc.aside {w : Vw β} (hw : w.Flat) {ys : List β} {y : AVal} (h : Acc w m τ ys y) (hx : ∀ l off len c, x = .sl l off len c → l < m) : Acc w m (out τ x) ys y := by
  rcases h with h | ⟨l, cs, rfl, h2, h3, h4, h5, h6⟩
  · exact .inl h
  · have hg : (out τ x).get l = τ.get l := by
      cases x with
      | sl k off len c =>
        have := hx k off len c rfl
        show (τ.kill k).get l = _
        rw [hkill_get, if_neg (by omega)]
      | _ => rfl
    exact .inr ⟨l, cs, rfl, h2, by rw [out_next]; exact h3, hg.trans h4, h5, fun i a hi => hw _ _ _ _ (h6 i a hi)⟩
theorem Acc.weak (h : Acc v m σ xs x) (hm : n0 ≤ m) : Acc v n0 σ xs x := by
  rcases h with h | ⟨l, cs, h1, h2, h3⟩
  · exact .inl h
  · exact .inr ⟨l, cs, h1, by omega, h3⟩
end

/-- Slices from a place on. -/
def Vw.slF {α : Type} (n : Nat) (v : Vw α) : Vw (List α) := ⟨1, fun σ xs us => ∃ x, us = [x] ∧ SlV v σ xs x ∧ ∀ l off len c, x = .sl l off len c → n ≤ l, Nat.one_pos, fun h => by obtain ⟨_, rfl, _⟩ := h; rfl, fun L h => by
  obtain ⟨x, e, h, k⟩ := h
  exact ⟨x, e, h.mono L, k⟩⟩
/-- Data that lie from a place on. -/
def Vw.Over {α : Type} (n : Nat) (v : Vw α) : Prop := ∀ σ τ a us, σ.next ≤ τ.next → (∀ l o, n ≤ l → σ.get l = some o → τ.get l = some o) → v.rel σ a us → v.rel τ a us
theorem Vw.Flat.over {α : Type} {v : Vw α} (h : v.Flat) (n : Nat) : v.Over n := fun σ τ a us _ _ k => h σ τ a us k
theorem Vw.slF_over {α : Type} {v : Vw α} {n : Nat} (h : v.Over n) : (v.slF n).Over n := fun σ τ xs us hn hg k => by
  obtain ⟨x, e, k1, k2⟩ := k
  refine ⟨x, e, ?_, k2⟩
  rcases k1 with k1 | ⟨l, off, c, md, cs, rfl, h2, h3, h4, h5⟩
  · exact .inl k1
  · exact .inr ⟨l, off, c, md, cs, rfl, by omega, hg _ _ (k2 _ _ _ _ rfl) h3, h4, fun i a hi => h _ _ _ _ hn hg (h5 i a hi)⟩
theorem Vw.pair_over {α β : Type} {v : Vw α} {w : Vw β} {n : Nat} (h : v.Over n) (k : w.Over n) : (v.pair w).Over n := fun σ τ ab us hn hg ⟨u1, u2, e, h1, h2⟩ => ⟨u1, u2, e, h _ _ _ _ hn hg h1, k _ _ _ _ hn hg h2⟩
theorem SlV.map {α : Type} {v w : Vw α} (hs : w.sz = v.sz) (hr : ∀ σ a us, v.rel σ a us → w.rel σ a us) {σ : Heap} {xs : List α} {x : AVal} (h : SlV v σ xs x) : SlV w σ xs x := by
  rcases h with h | ⟨l, off, c, md, cs, h1, h2, h3, h4, h5⟩
  · exact .inl h
  · exact .inr ⟨l, off, c, md, cs, h1, h2, by rw [hs]; exact h3, by rw [hs]; exact h4, fun i a hi => by rw [hs]; exact hr _ _ _ (h5 i a hi)⟩
theorem SlV.ovr {α : Type} {v : Vw α} {n k : Nat} (hv : v.Over n) {σ : Heap} {xs : List α} {x : AVal} (h : SlV v σ xs x) (hx : ∀ l off len c, x = .sl l off len c → n ≤ l) (hk : k < n) : SlV v (σ.kill k) xs x := by
  obtain ⟨y, e, h, _⟩ := Vw.slF_over (n := n) hv σ (σ.kill k) xs [x] (Nat.le_refl _) (fun l o hl hg => by rw [hkill_get, if_neg (by omega)]; exact hg) ⟨x, rfl, h, hx⟩
  cases e; exact h
theorem Acc.from {α : Type} {v : Vw α} {σ : Heap} {xs : List α} {x : AVal} {n0 n : Nat} (h : Acc v n0 σ xs x) (hn : n ≤ n0) : ∀ l off len c, x = .sl l off len c → n ≤ l := fun l off len c e => Nat.le_trans hn (h.loc l off len c e).1
def vBF (n : Nat) : Vw (Bool × List Int) := Vw.pair .bool (Vw.slF n .int)
def vIsF (n : Nat) : Vw (List Int) := Vw.slF n .int
theorem vBF_over (n : Nat) : (vBF n).Over n := Vw.pair_over (Vw.bool_flat.over n) (Vw.slF_over (Vw.int_flat.over n))
theorem vIsF_over (n : Nat) : (vIsF n).Over n := Vw.slF_over (Vw.int_flat.over n)
theorem vBF_rel {σ : Heap} {n : Nat} {b : Bool × List Int} {us : List AVal} (h : (vBF n).rel σ b us) : ∃ x, us = [.bool b.1, x] ∧ SlV .int σ b.2 x ∧ ∀ l off len c, x = .sl l off len c → n ≤ l := by
  obtain ⟨u1, u2, rfl, h1, x, rfl, h2, h3⟩ := h
  have h1 : u1 = [.bool b.1] := h1
  subst h1
  exact ⟨x, rfl, h2, h3⟩
theorem vBF_mk {σ : Heap} {n : Nat} {b : Bool × List Int} {x : AVal} (h : SlV .int σ b.2 x) (k : ∀ l off len c, x = .sl l off len c → n ≤ l) : (vBF n).rel σ b [.bool b.1, x] := ⟨[.bool b.1], [x], rfl, rfl, x, rfl, h, k⟩
theorem SlV.ofBF {σ : Heap} {n : Nat} {xs : List (Bool × List Int)} {x : AVal} (h : SlV (vBF n) σ xs x) : SlV vB σ xs x := SlV.map (v := vBF n) (w := vB) rfl (h := h) fun σ a us k => by
  obtain ⟨y, rfl, h, _⟩ := vBF_rel k
  exact vB_mk h
theorem SlV.ofIsF {σ : Heap} {n : Nat} {xs : List (List Int)} {x : AVal} (h : SlV (vIsF n) σ xs x) : SlV vIs σ xs x := SlV.map (v := vIsF n) (w := vIs) rfl (h := h) fun σ a us k => by
  obtain ⟨y, rfl, h, _⟩ := k
  exact vIs_one h

theorem ints_w {σ : Heap} {xs : List Int} {x : AVal} (hx : SlV .int σ xs x) (hb : xs.length ≤ 1000000000) : W (S.skolemref_Ints x σ) fun r => Acc .int σ.next r.2 xs r.1 ∧ Hle σ r.2 := by
  unfold S.skolemref_Ints
  repeat' (with_reducible refine W.len (by assumption) ?_)
  refine W.mk0 .int (by omega) (by omega) fun y τ L hA => ?_
  repeat' (with_reducible refine W.bind ?_)
  refine W.loop xs.length (fun i y τ => y.2 = (i : Int) ∧ Hle σ τ ∧ Acc .int σ.next τ (xs.take i) y.1) ⟨rfl, L, by simpa using hA⟩ fun i y τ hi hI => ?_
  obtain ⟨y, j⟩ := y
  obtain ⟨rfl, L, hA⟩ := hI
  unfold S.skolemref_Ints.b0
  dsimp only
  repeat' (first | (with_reducible (first | refine W.stop ?_ | refine W.ret ?_ | refine W.len (by assumption) ?_)) | (with_reducible refine W.cnd (fun hc => ?_) (fun hc => ?_) <;> (try simp only [q1, q2, q3, q4, q5, q6, q7, q8, q9, q10, q11, q12, q13, q14, q15, q16, q17, q18, q19, q20, q21, q22, q23, q24, q25, q26, q27, q28, q29, q30] at hc) <;> (try (exfalso; omega))))
  · refine W.ixInc (hx.mono L) (by omega) fun a ha => ?_
    refine W.pushI hA L (by simp; omega) (by simp; omega) fun y' τ' L' hA' _ => ?_
    repeat' (with_reducible refine W.next ?_)
    exact ⟨by omega, sk, L', by rw [List.take_add_one, ha]; exact hA'⟩
  · rw [List.take_of_length_le (by omega)] at hA
    exact ⟨hA, L⟩

/-! ### Merged blocks -/
theorem W.at {α R : Type} {v : Vw α} {n0 : Nat} {σ : Heap} {xs : List α} {x : AVal} (h : Acc v n0 σ xs x) {i : Nat} {a : α} (hi : xs[i]? = some a) {K : AVal → Option R} {Q : R → Prop}
    (c : ∀ l o us, At σ (.ptr l o) us → v.rel (A.out σ x) a us → (∀ k vs a', k + vs.length ≤ v.sz → v.rel (A.out σ x) a' (us.take k ++ vs ++ us.drop (k + vs.length)) →
      ∃ τ, (∀ {Rt : Type} (K : Heap → Option Rt), stC σ (.ptr l (o + k)) vs K = K τ) ∧ Acc v n0 τ (xs.set i a') x ∧ (∀ σ0 : Heap, σ0.next ≤ n0 → Hle σ0 σ → Hle σ0 τ) ∧ Hle (A.out σ x) (A.out τ x) ∧ τ.next = σ.next) → W (K (.ptr l o)) Q) {sz : Nat} (hs : sz = v.sz := by rfl) :
    W (ixA σ x sz (i : Int) K) Q := by
  subst hs
  obtain ⟨l, o, us, h1, h2, h3, h4⟩ := h.at hi
  exact W.to (h1 K) (c l o us h2 h3 h4)

theorem refMerge_step {σ0 σ : Heap} {bs out0 : List (Bool × List Int)} {b : Bool × List Int} {i : Nat} {x y : AVal} (hx : SlV vB σ0 bs x) (hi : bs[i]? = some b) (hb : bs.length ≤ 1000000000) (L : Hle σ0 σ) (hA : Acc (vBF σ0.next) σ0.next σ out0 y)
    (ho : out0.length ≤ 1000000000) (hs : ∀ a ∈ out0, a.2.length ≤ 1000000000) (hbl : b.2.length ≤ 1000000000) :
    W (S.skolemref1_Merge.b0 x (y, (i : Int)) σ) fun r => ∃ y', r.1 = .inl (y', ((i + 1 : Nat) : Int)) ∧ Hle σ0 r.2 ∧ Acc (vBF σ0.next) σ0.next r.2 (mergeB out0 b) y' := by
  have hlt := (List.getElem?_eq_some_iff.1 hi).1
  have hxl := hx.mono L
  have hAl := hA.sl
  obtain ⟨p, us, hp, hr, e1⟩ := hx.ix hi
  obtain ⟨u, rfl, hu⟩ := vB_rel hr
  obtain ⟨lp, op, _, _, _, rfl, _⟩ := id hp
  have hp' := hp.mono L
  have hu' := hu.mono L
  unfold S.skolemref1_Merge.b0
  dsimp only
  repeat' (first | (with_reducible (first | refine W.bind ?_ | refine W.len (by assumption) ?_)) | (with_reducible refine W.condT ?_ ?_; focus (first | (simp only [q1, q2, q3, q4, q5, q6, q7, q8, q9, q10, q11, q12, q13, q14, q15, q16, q17, q18, q19, q20, q21, q22, q23, q24, q25, q26, q27, q28, q29, q30]; done) | (simp only [q1, q2, q3, q4, q5, q6, q7, q8, q9, q10, q11, q12, q13, q14, q15, q16, q17, q18, q19, q20, q21, q22, q23, q24, q25, q26, q27, q28, q29, q30]; omega) | assumption)))
  refine W.to (e1 L _) ?_
  repeat' (with_reducible (first | refine W.asV ?_ | refine W.fldp ?_ | refine W.len (by assumption) ?_ | refine W.ldp (by assumption) (by with_unfolding_all rfl) ?_))
  (with_reducible refine W.cnd (fun h0 => ?_) (fun h0 => ?_) <;> (try simp only [q1, q2, q3, q4, q5, q6, q7, q8, q9, q10, q11, q12, q13, q14, q15, q16, q17, q18, q19, q20, q21, q22, q23, q24, q25, q26, q27, q28, q29, q30] at h0) <;> (try (exfalso; omega)))
  · repeat' (with_reducible refine W.ret ?_)
    refine ⟨_, by rw [sk], L, ?_⟩
    rw [mergeB, if_pos (List.eq_nil_of_length_eq_zero (by omega))]
    exact hA
  · have hne : b.2 ≠ [] := fun e => h0 (by rw [e]; rfl)
    have hcase : W ((cond (decide ((out0.length : Int) > 0)) (ixA σ y 2 (IntKind.i64.wrap ((out0.length : Int) - 1)) fun a10 => fld a10 0 fun a11 => ld σ a11 (.B) fun b12 => ixA σ x 2 (i : Int) fun a13 => fld a13 0 fun a14 => ld σ a14 (.B) fun b15 => some (b12 == b15)) (some false))) fun r => r = true ∧ (∃ a, out0.getLast? = some a ∧ a.1 = b.1) ∨ r = false ∧ ∀ a, out0.getLast? = some a → a.1 ≠ b.1 := by
      (with_reducible refine W.cnd (fun hq => ?_) (fun hq => ?_) <;> (try simp only [q1, q2, q3, q4, q5, q6, q7, q8, q9, q10, q11, q12, q13, q14, q15, q16, q17, q18, q19, q20, q21, q22, q23, q24, q25, q26, q27, q28, q29, q30] at hq) <;> (try (exfalso; omega)))
      · obtain ⟨a, ha⟩ : ∃ a, out0[out0.length - 1]? = some a := ⟨_, List.getElem?_eq_getElem (by omega)⟩
        have w : IntKind.i64.wrap ((out0.length : Int) - 1) = ((out0.length - 1 : Nat) : Int) := by rw [wrapS] <;> omega
        rw [w]
        refine W.ixkL hAl (Hle.refl _) ha fun p2 us2 hp2 hr2 => ?_
        obtain ⟨u2, rfl, hu2, _⟩ := vBF_rel hr2
        repeat' (with_reducible (first | refine W.asB ?_ | refine W.fldld (by assumption) (by with_unfolding_all rfl) ?_))
        refine W.to (e1 L _) ?_
        repeat' (with_reducible (first | refine W.ret ?_ | refine W.asB ?_ | refine W.fldp ?_ | refine W.ldp (by assumption) (by with_unfolding_all rfl) ?_))
        have hl : out0.getLast? = some a := by rw [List.getLast?_eq_getElem?]; exact ha
        by_cases hk : a.1 = b.1
        · exact .inl ⟨by simp [hk], a, hl, hk⟩
        · refine .inr ⟨by simpa using hk, fun a' ha' => ?_⟩
          rw [hl] at ha'; cases ha'; exact hk
      · repeat' (with_reducible refine W.ret ?_)
        refine .inr ⟨rfl, fun a ha => ?_⟩
        have : out0 = [] := List.eq_nil_of_length_eq_zero (by omega)
        rw [this] at ha; cases ha
    repeat' (with_reducible refine W.bind ?_)
    refine W.mono hcase fun r hr => ?_
    rcases hr with ⟨rfl, a, hl, hk⟩ | ⟨rfl, hl⟩
    · repeat' (with_reducible refine W.condT ?_ ?_; focus (first | (simp only [q1, q2, q3, q4, q5, q6, q7, q8, q9, q10, q11, q12, q13, q14, q15, q16, q17, q18, q19, q20, q21, q22, q23, q24, q25, q26, q27, q28, q29, q30]; done) | (simp only [q1, q2, q3, q4, q5, q6, q7, q8, q9, q10, q11, q12, q13, q14, q15, q16, q17, q18, q19, q20, q21, q22, q23, q24, q25, q26, q27, q28, q29, q30]; omega) | assumption))
      have ha : out0[out0.length - 1]? = some a := by rw [← List.getLast?_eq_getElem?]; exact hl
      have hpos : 0 < out0.length := by have := (List.getElem?_eq_some_iff.1 ha).1; omega
      have w : IntKind.i64.wrap ((out0.length : Int) - 1) = ((out0.length - 1 : Nat) : Int) := by rw [wrapS] <;> omega
      rw [w]
      refine W.ixkL hAl (Hle.refl _) ha fun p2 us2 hp2 hr2 => ?_
      obtain ⟨u2, rfl, hu2, _⟩ := vBF_rel hr2
      repeat' (with_reducible (first | refine W.bind ?_ | refine W.asV ?_ | refine W.fldld (by assumption) (by with_unfolding_all rfl) ?_))
      have hal := hs a (List.mem_of_getElem? ha)
      refine W.mono (ints_w hu2 hal) fun r hr => ?_
      obtain ⟨z, τ⟩ := r
      obtain ⟨hz, L2⟩ := hr
      dsimp only at hz L2 ⊢
      have L02 := L.mono L2
      refine W.to (e1 L02 _) (W.to (e1 L _) ?_)
      have hp2 := hp.mono L02
      repeat' (with_reducible (first | refine W.asV ?_ | refine W.chk rfl ?_ | refine W.fldp ?_ | refine W.ldp (by assumption) (by with_unfolding_all rfl) ?_))
      have hu2' := (hu.mono L02).mono (Hle.refl _)
      refine W.app hz L2 (hu'.mono (hz.out_le L2)) (by omega) (by omega) fun z' τ3 L3 hz' _ => ?_
      have hA3 := hA.mono L3
      refine W.at hA3 ha fun l o us3 h1 h2 h3 => ?_
      obtain ⟨u3, rfl, hu3, _⟩ := vBF_rel h2
      obtain ⟨τ4, e4, hA4, f4, _, _⟩ := h3 1 [z'] (a.1, a.2 ++ b.2) (Nat.le_of_ble_eq_true rfl) (vBF_mk (b := (a.1, a.2 ++ b.2)) (hz'.aside Vw.int_flat hA.below).sl (hz'.from L.next))
      repeat' (with_reducible refine W.fldp ?_)
      refine W.scalS hz'.sl (W.to (e4 _) ?_)
      repeat' (with_reducible refine W.ret ?_)
      refine ⟨y, by rw [sk], f4 σ0 (Nat.le_refl _) (L.mono L3), ?_⟩
      rw [mergeB, if_neg hne, hl]
      simp only [hk, if_true] at hA4 ⊢
      exact hA4
    · repeat' (with_reducible refine W.condF ?_ ?_; focus (first | (simp only [q1, q2, q3, q4, q5, q6, q7, q8, q9, q10, q11, q12, q13, q14, q15, q16, q17, q18, q19, q20, q21, q22, q23, q24, q25, q26, q27, q28, q29, q30]; done) | (simp only [q1, q2, q3, q4, q5, q6, q7, q8, q9, q10, q11, q12, q13, q14, q15, q16, q17, q18, q19, q20, q21, q22, q23, q24, q25, q26, q27, q28, q29, q30]; omega) | assumption))
      refine W.to (e1 L _) ?_
      repeat' (with_reducible (first | refine W.asB ?_ | refine W.fldp ?_ | refine W.ldp (by assumption) (by with_unfolding_all rfl) ?_))
      refine W.to (e1 L _) ?_
      repeat' (with_reducible (first | refine W.bind ?_ | refine W.asV ?_ | refine W.fldp ?_ | refine W.ldp (by assumption) (by with_unfolding_all rfl) ?_))
      refine W.mono (ints_w hu' hbl) fun r hr => ?_
      obtain ⟨z, τ⟩ := r
      obtain ⟨hz, L2⟩ := hr
      dsimp only at hz L2 ⊢
      have L02 := L.mono L2
      have hp2 := hp.mono L02
      repeat' (with_reducible (first | refine W.asB ?_ | refine W.chk rfl ?_ | refine W.ldp (by assumption) (by with_unfolding_all rfl) ?_))
      refine W.to (e1 L02 _) ?_
      repeat' (with_reducible refine W.chk rfl ?_)
      refine W.scalS hz.sl ?_
      refine W.push (hA.mono L2) L02 (cs := [.bool b.1, z]) (a := (b.1, b.2)) (vBF_mk (b := (b.1, b.2)) (hz.aside Vw.int_flat hA.below).sl (hz.from L.next)) (by omega) (by omega) fun y' τ3 L3 hA3 _ => ?_
      repeat' (with_reducible refine W.ret ?_)
      refine ⟨y', by rw [sk], L3, ?_⟩
      have : mergeB out0 b = out0 ++ [b] := by
        rw [mergeB, if_neg hne]
        split
        · rename_i a ha; rw [if_neg (hl a ha)]
        · rfl
      rw [this]
      exact hA3

theorem merge_step2 {σ0 σ : Heap} {bs out0 : List (Bool × List Int)} {b : Bool × List Int} {i : Nat} {x y : AVal} (hx : SlV vB σ0 bs x) (hi : bs[i]? = some b) (hb : bs.length ≤ 1000000000) (L : Hle σ0 σ) (hA : Acc (vBF σ0.next) σ0.next σ out0 y)
    (ho : out0.length ≤ 1000000000) (hs : ∀ a ∈ out0, a.2.length + b.2.length ≤ 1000000) (hbl : b.2.length ≤ 1000000) :
    W (S.prefix_Merge.b0 x (bs.length : Int) (y, (i : Int)) σ) fun r => ∃ y', r.1 = .inl (y', ((i + 1 : Nat) : Int)) ∧ Hle σ0 r.2 ∧ Acc (vBF σ0.next) σ0.next r.2 (mergeB out0 b) y' := by
  have hlt := (List.getElem?_eq_some_iff.1 hi).1
  obtain ⟨p, us, hp, hr, e1⟩ := hx.ix hi
  obtain ⟨u, rfl, hu⟩ := vB_rel hr
  have hp' := hp.mono L
  unfold S.prefix_Merge.b0
  dsimp only
  repeat' (first | (with_reducible refine W.bind ?_) | (with_reducible refine W.condT ?_ ?_; focus (first | (simp only [q1, q2, q3, q4, q5, q6, q7, q8, q9, q10, q11, q12, q13, q14, q15, q16, q17, q18, q19, q20, q21, q22, q23, q24, q25, q26, q27, q28, q29, q30]; done) | (simp only [q1, q2, q3, q4, q5, q6, q7, q8, q9, q10, q11, q12, q13, q14, q15, q16, q17, q18, q19, q20, q21, q22, q23, q24, q25, q26, q27, q28, q29, q30]; omega) | assumption)))
  refine W.to (e1 L _) ?_
  repeat' (with_reducible refine W.ldGG (by assumption) (by with_unfolding_all rfl) ?_)
  refine W.new fun l8 τ hl8 L8 h8 hnτ => ?_
  repeat' (with_reducible refine W.aggK (by with_unfolding_all rfl) ?_)
  have hnx0 := L.next
  refine W.st0 h8 (by rfl) fun τ2 L2 hn2 h8 => ?_
  have LL : Hle σ τ2 := L8.ofk (by omega) L2
  replace L := L.mono LL
  replace hA := hA.mono LL
  have hAl := hA.sl
  have hu' := hu.mono L
  repeat' (with_reducible (first | refine W.asV ?_ | refine W.len (by assumption) ?_ | refine W.ldL (by assumption) (by with_unfolding_all rfl) ?_))
  (with_reducible refine W.cnd (fun h0 => ?_) (fun h0 => ?_) <;> (try simp only [q1, q2, q3, q4, q5, q6, q7, q8, q9, q10, q11, q12, q13, q14, q15, q16, q17, q18, q19, q20, q21, q22, q23, q24, q25, q26, q27, q28, q29, q30] at h0) <;> (try (exfalso; omega)))
  · repeat' (with_reducible refine W.ret ?_)
    refine ⟨_, by rw [sk], L, ?_⟩
    rw [mergeB, if_pos (List.eq_nil_of_length_eq_zero (by omega))]
    exact hA
  · have hne : b.2 ≠ [] := fun e => h0 (by rw [e]; rfl)
    have w : IntKind.i64.wrap ((out0.length : Int) - 1) = (out0.length : Int) - 1 := by rw [wrapS] <;> omega
    have hcase : W ((cond (decide ((out0.length : Int) - 1 ≥ 0)) (ixA τ2 y 2 ((out0.length : Int) - 1) fun a15 => fld a15 0 fun a16 => ld τ2 a16 (.B) fun b17 => ld τ2 (.ptr l8 0) (.B) fun b18 => some (b17 == b18)) (some false))) fun r => r = true ∧ (∃ a, out0.getLast? = some a ∧ a.1 = b.1) ∨ r = false ∧ ∀ a, out0.getLast? = some a → a.1 ≠ b.1 := by
      (with_reducible refine W.cnd (fun hq => ?_) (fun hq => ?_) <;> (try simp only [q1, q2, q3, q4, q5, q6, q7, q8, q9, q10, q11, q12, q13, q14, q15, q16, q17, q18, q19, q20, q21, q22, q23, q24, q25, q26, q27, q28, q29, q30] at hq) <;> (try (exfalso; omega)))
      · obtain ⟨a, ha⟩ : ∃ a, out0[out0.length - 1]? = some a := ⟨_, List.getElem?_eq_getElem (by omega)⟩
        have w : (out0.length : Int) - 1 = ((out0.length - 1 : Nat) : Int) := by omega
        rw [w]
        refine W.ixkL hAl (Hle.refl _) ha fun p2 us2 hp2 hr2 => ?_
        obtain ⟨u2, rfl, hu2, _⟩ := vBF_rel hr2
        repeat' (with_reducible (first | refine W.ret ?_ | refine W.asB ?_ | refine W.ldL (by assumption) (by with_unfolding_all rfl) ?_ | refine W.fldld (by assumption) (by with_unfolding_all rfl) ?_))
        have hl : out0.getLast? = some a := by rw [List.getLast?_eq_getElem?]; exact ha
        by_cases hk : a.1 = b.1
        · exact .inl ⟨by simp [hk], a, hl, hk⟩
        · refine .inr ⟨by simpa using hk, fun a' ha' => ?_⟩
          rw [hl] at ha'; cases ha'; exact hk
      · repeat' (with_reducible refine W.ret ?_)
        refine .inr ⟨rfl, fun a ha => ?_⟩
        have : out0 = [] := List.eq_nil_of_length_eq_zero (by omega)
        rw [this] at ha; cases ha
    rw [w]
    repeat' (with_reducible refine W.bind ?_)
    refine W.mono hcase fun r hr => ?_
    rcases hr with ⟨rfl, a, hl, hk⟩ | ⟨rfl, hl⟩
    · repeat' (with_reducible refine W.condT ?_ ?_; focus (first | (simp only [q1, q2, q3, q4, q5, q6, q7, q8, q9, q10, q11, q12, q13, q14, q15, q16, q17, q18, q19, q20, q21, q22, q23, q24, q25, q26, q27, q28, q29, q30]; done) | (simp only [q1, q2, q3, q4, q5, q6, q7, q8, q9, q10, q11, q12, q13, q14, q15, q16, q17, q18, q19, q20, q21, q22, q23, q24, q25, q26, q27, q28, q29, q30]; omega) | assumption))
      have ha : out0[out0.length - 1]? = some a := by rw [← List.getLast?_eq_getElem?]; exact hl
      have hpos : 0 < out0.length := by have := (List.getElem?_eq_some_iff.1 ha).1; omega
      have w : (out0.length : Int) - 1 = ((out0.length - 1 : Nat) : Int) := by omega
      rw [w]
      refine W.ixkL hAl (Hle.refl _) ha fun p2 us2 hp2 hr2 => ?_
      obtain ⟨u2, rfl, hu2, _⟩ := vBF_rel hr2
      repeat' (with_reducible (first | refine W.asV ?_ | refine W.ldL (by assumption) (by with_unfolding_all rfl) ?_ | refine W.fldld (by assumption) (by with_unfolding_all rfl) ?_ | refine W.scalS (by assumption) ?_))
      have hal := hs a (List.mem_of_getElem? ha)
      refine W.newg fun l24 τ3 hl24 L3 _ hg3 hn3 => ?_
      have hz : SlV (Vw.sl .int) τ3 [a.2, b.2] (.sl l24 0 2 none) := .inr ⟨l24, 0, none, .rw, _, rfl, by omega, hg3, Nat.le_of_ble_eq_true rfl, fun i c hi => by
        match i, hi with
        | 0, hi => cases hi; exact ⟨u2, rfl, hu2.mono L3⟩
        | 1, hi => cases hi; exact ⟨u, rfl, hu'.mono L3⟩
        | k + 2, hi => simp at hi⟩
      obtain ⟨z, τ4, e4, L4, hz4⟩ := concat_eq hz (by simp; omega) (by simp)
      refine W.eqn e4 ?_
      dsimp only
      have L04 := (L.mono L3).mono L4
      have hA4 := (hA.mono L3).mono L4
      refine W.at hA4 ha fun l o us3 h1 h2 h3 => ?_
      obtain ⟨u3, rfl, hu3, _⟩ := vBF_rel h2
      simp only [List.flatten_cons, List.flatten_nil, List.append_nil] at hz4
      have hnx := L3.next
      obtain ⟨τ5, e5, hA5, f5, _, _⟩ := h3 1 [z] (a.1, a.2 ++ b.2) (Nat.le_of_ble_eq_true rfl) (vBF_mk (b := (a.1, a.2 ++ b.2)) (hz4.aside Vw.int_flat (hA.mono L3).below).sl (hz4.from (by omega)))
      repeat' (with_reducible refine W.fldp ?_)
      refine W.scalS hz4.sl (W.to (e5 _) ?_)
      repeat' (with_reducible refine W.ret ?_)
      refine ⟨y, by rw [sk], f5 σ0 (Nat.le_refl _) L04, ?_⟩
      rw [mergeB, if_neg hne, hl]
      simp only [hk, if_true] at hA5 ⊢
      exact hA5
    · repeat' (first | (with_reducible (first | refine W.bind ?_ | refine W.asB ?_ | refine W.asV ?_ | refine W.ldL (by assumption) (by with_unfolding_all rfl) ?_)) | (with_reducible refine W.condF ?_ ?_; focus (first | (simp only [q1, q2, q3, q4, q5, q6, q7, q8, q9, q10, q11, q12, q13, q14, q15, q16, q17, q18, q19, q20, q21, q22, q23, q24, q25, q26, q27, q28, q29, q30]; done) | (simp only [q1, q2, q3, q4, q5, q6, q7, q8, q9, q10, q11, q12, q13, q14, q15, q16, q17, q18, q19, q20, q21, q22, q23, q24, q25, q26, q27, q28, q29, q30]; omega) | assumption)))
      obtain ⟨z, τ3, e3, L3, hz⟩ := clone_eq hu' (by omega)
      refine W.to e3 ?_
      repeat' (with_reducible refine W.ret ?_)
      have h83 := h8.mono L3
      have hnx := L3.next
      repeat' (with_reducible (first | refine W.asB ?_ | refine W.chk rfl ?_ | refine W.ldL (by assumption) (by with_unfolding_all rfl) ?_))
      refine W.scalS hz.sl ?_
      refine W.push (hA.mono L3) (L.mono L3) (cs := [.bool b.1, z]) (a := (b.1, b.2)) (vBF_mk (b := (b.1, b.2)) (hz.aside Vw.int_flat hA.below).sl (hz.from (by omega))) (by omega) (by omega) fun y' τ4 L4 hA4 _ => ?_
      repeat' (with_reducible refine W.ret ?_)
      refine ⟨y', by rw [sk], L4, ?_⟩
      have : mergeB out0 b = out0 ++ [b] := by
        rw [mergeB, if_neg hne]
        split
        · rename_i a ha; rw [if_neg (hl a ha)]
        · rfl
      rw [this]
      exact hA4

theorem merge_w {σ : Heap} {bs : List (Bool × List Int)} {x : AVal} (hx : SlV vB σ bs x) (hb : bs.length ≤ 1000000) (ht : total bs ≤ 500000) :
    W (S.prefix_Merge x σ) fun r => Hle σ r.2 ∧ Acc (vBF σ.next) σ.next r.2 (merge bs) r.1 := by
  unfold S.prefix_Merge
  repeat' (with_reducible (first | refine W.bind ?_ | refine W.len (by assumption) ?_))
  refine W.loop bs.length (fun i y τ => y.2 = (i : Int) ∧ Hle σ τ ∧ Acc (vBF σ.next) σ.next τ ((bs.take i).foldl mergeB []) y.1) ⟨rfl, Hle.refl _, by simpa using Acc.nil _ _ _⟩ fun i y τ hi hI => ?_
  obtain ⟨y, j⟩ := y
  obtain ⟨rfl, L, hA⟩ := hI
  by_cases hlt : i < bs.length
  · obtain ⟨b, hbi⟩ : ∃ b, bs[i]? = some b := ⟨_, List.getElem?_eq_getElem hlt⟩
    obtain ⟨g1, g2⟩ := foldl_merge (bs.take i) []
    have htt := total_take bs i
    have hbt := total_mem (List.mem_of_getElem? hbi)
    simp [total] at g1 g2 htt
    refine W.mono (merge_step2 hx hbi (by omega) L hA (by omega) (fun a ha => by have := total_mem ha; have h5 := total_mem (List.mem_of_getElem? hbi); have h6 := foldl_merge (bs.take i) []; have h7 := total_take bs i; simp only [total] at *; simp at h6; omega) (by omega)) fun r hr => ?_
    obtain ⟨r, τ2⟩ := r
    obtain ⟨y', e, L2, hA2⟩ := hr
    dsimp only at e L2 hA2; subst e
    refine ⟨hlt, rfl, L2, ?_⟩
    rw [List.take_add_one, hbi, List.foldl_append]
    exact hA2
  · unfold S.prefix_Merge.b0
    repeat' (first | (with_reducible (first | refine W.stop ?_ | refine W.ret ?_)) | (with_reducible refine W.condF ?_ ?_; focus (first | (simp only [q1, q2, q3, q4, q5, q6, q7, q8, q9, q10, q11, q12, q13, q14, q15, q16, q17, q18, q19, q20, q21, q22, q23, q24, q25, q26, q27, q28, q29, q30]; done) | (simp only [q1, q2, q3, q4, q5, q6, q7, q8, q9, q10, q11, q12, q13, q14, q15, q16, q17, q18, q19, q20, q21, q22, q23, q24, q25, q26, q27, q28, q29, q30]; omega) | assumption)))
    rw [List.take_of_length_le (by omega)] at hA
    exact ⟨L, hA⟩

theorem refMerge_w {σ : Heap} {bs : List (Bool × List Int)} {x : AVal} (hx : SlV vB σ bs x) (hb : bs.length ≤ 1000000) (ht : total bs ≤ 1000000) :
    W (S.skolemref1_Merge x σ) fun r => Hle σ r.2 ∧ Acc (vBF σ.next) σ.next r.2 (merge bs) r.1 := by
  unfold S.skolemref1_Merge
  repeat' (with_reducible refine W.bind ?_)
  refine W.loop bs.length (fun i y τ => y.2 = (i : Int) ∧ Hle σ τ ∧ Acc (vBF σ.next) σ.next τ ((bs.take i).foldl mergeB []) y.1) ⟨rfl, Hle.refl _, by simpa using Acc.nil _ _ _⟩ fun i y τ hi hI => ?_
  obtain ⟨y, j⟩ := y
  obtain ⟨rfl, L, hA⟩ := hI
  by_cases hlt : i < bs.length
  · obtain ⟨b, hbi⟩ : ∃ b, bs[i]? = some b := ⟨_, List.getElem?_eq_getElem hlt⟩
    obtain ⟨g1, g2⟩ := foldl_merge (bs.take i) []
    have htt := total_take bs i
    have hbt := total_mem (List.mem_of_getElem? hbi)
    simp [total] at g1 g2 htt
    refine W.mono (refMerge_step hx hbi (by omega) L hA (by omega) (fun a ha => by have := total_mem ha; simp [total] at this ht; omega) (by omega)) fun r hr => ?_
    obtain ⟨r, τ2⟩ := r
    obtain ⟨y', e, L2, hA2⟩ := hr
    dsimp only at e L2 hA2; subst e
    refine ⟨hlt, rfl, L2, ?_⟩
    rw [List.take_add_one, hbi, List.foldl_append]
    exact hA2
  · unfold S.skolemref1_Merge.b0
    repeat' (first | (with_reducible (first | refine W.stop ?_ | refine W.ret ?_ | refine W.len (by assumption) ?_)) | (with_reducible refine W.condF ?_ ?_; focus (first | (simp only [q1, q2, q3, q4, q5, q6, q7, q8, q9, q10, q11, q12, q13, q14, q15, q16, q17, q18, q19, q20, q21, q22, q23, q24, q25, q26, q27, q28, q29, q30]; done) | (simp only [q1, q2, q3, q4, q5, q6, q7, q8, q9, q10, q11, q12, q13, q14, q15, q16, q17, q18, q19, q20, q21, q22, q23, q24, q25, q26, q27, q28, q29, q30]; omega) | assumption)))
    rw [List.take_of_length_le (by omega)] at hA
    exact ⟨L, hA⟩
end Go.Proofs.YtgneblbblihaoaaDoor.A

/- PrefixMerges, as0 plain law. -/
namespace Go.Proofs.YtgneblbblihaoaaDoor.A
open Go

def vars (bs : List (Bool × List Int)) : List Int := (bs.map (·.2)).flatten
theorem vars_append (a b : List (Bool × List Int)) : vars (a ++ b) = vars a ++ vars b := by simp [vars]
theorem mergeB_vars (out : List (Bool × List Int)) (b) : vars (mergeB out b) = vars out ++ b.2 := by
  unfold mergeB; split
  · rename_i h; simp [h]
  · split
    · rename_i a h
      split
      · obtain ⟨l, rfl⟩ := List.getLast?_eq_some_iff.1 h
        have : (l ++ [a]).set ((l ++ [a]).length - 1) (a.1, a.2 ++ b.2) = l ++ [(a.1, a.2 ++ b.2)] := by
          rw [List.length_append, List.length_singleton, Nat.add_sub_cancel, List.set_append_right _ _ (Nat.le_refl _)]; simp
        rw [this, vars_append, vars_append]; simp [vars]
      · rw [vars_append]; simp [vars]
    · rw [vars_append]; simp [vars]
theorem foldl_vars : ∀ (bs out : List (Bool × List Int)), vars (bs.foldl mergeB out) = vars out ++ vars bs
  | [], out => by simp [vars]
  | b :: bs, out => by rw [List.foldl_cons, foldl_vars bs, mergeB_vars]; simp [vars]
theorem merge_vars (bs : List (Bool × List Int)) : vars (merge bs) = vars bs := by
  unfold merge; rw [foldl_vars]; simp [vars]

/-- No block is empty, neighbours are of unlike kinds. -/
structure Good (l : List (Bool × List Int)) : Prop where
  ne : ∀ b ∈ l, b.2 ≠ []
  alt : ∀ i a b, l[i]? = some a → l[i + 1]? = some b → a.1 ≠ b.1

theorem mergeB_good {out : List (Bool × List Int)} (h : Good out) (b) : Good (mergeB out b) := by
  have push : b.2 ≠ [] → (∀ a, out.getLast? = some a → a.1 ≠ b.1) → Good (out ++ [b]) := fun hb hl => by
    refine ⟨fun c hc => ?_, fun i a c ha hc => ?_⟩
    · rcases List.mem_append.1 hc with hc | hc
      · exact h.ne c hc
      · simp at hc; subst hc; exact hb
    · have hi := (List.getElem?_eq_some_iff.1 hc).1
      simp at hi
      rw [List.getElem?_append_left (by omega)] at ha
      by_cases h2 : i + 1 < out.length
      · rw [List.getElem?_append_left h2] at hc; exact h.alt i a c ha hc
      · have e : i + 1 = out.length := by omega
        rw [List.getElem?_append_right (by omega), e, Nat.sub_self] at hc
        simp at hc; subst hc
        refine hl a ?_
        rw [List.getLast?_eq_getElem?, show out.length - 1 = i by omega]; exact ha
  unfold mergeB; split
  · exact h
  · rename_i hb
    split
    · rename_i a ha
      split
      · rename_i hk
        have key : ∀ (i : Nat) (c : Bool × List Int), (out.set (out.length - 1) (a.1, a.2 ++ b.2))[i]? = some c → ∃ d : Bool × List Int, out[i]? = some d ∧ d.1 = c.1 ∧ (c.2 = [] → d.2 = []) := by
          intro i c hc
          rw [List.getElem?_set] at hc
          split at hc
          · rename_i e
            split at hc
            · cases hc
              rw [List.getLast?_eq_getElem?, e] at ha
              exact ⟨a, ha, rfl, fun h => (List.append_eq_nil_iff.1 h).1⟩
            · cases hc
          · exact ⟨c, hc, rfl, fun h => h⟩
        refine ⟨fun c hc => ?_, fun i c d hc hd => ?_⟩
        · obtain ⟨i, hi, e⟩ := List.getElem_of_mem hc
          obtain ⟨d, h1, _, h3⟩ := key i c (by rw [List.getElem?_eq_getElem hi, e])
          exact fun e => h.ne d (List.mem_of_getElem? h1) (h3 e)
        · obtain ⟨c', h1, h2, _⟩ := key _ _ hc
          obtain ⟨d', h3, h4, _⟩ := key _ _ hd
          rw [← h2, ← h4]; exact h.alt i c' d' h1 h3
      · rename_i hk
        exact push hb fun a' ha' => by rw [ha] at ha'; cases ha'; exact hk
    · rename_i hn
      exact push hb fun a' ha' => by rw [hn] at ha'; cases ha'
theorem foldl_good : ∀ (bs : List (Bool × List Int)) {out : List (Bool × List Int)}, Good out → Good (bs.foldl mergeB out)
  | [], _, h => h
  | b :: bs, _, h => foldl_good bs (mergeB_good h b)
theorem merge_good (bs : List (Bool × List Int)) : Good (merge bs) := foldl_good bs ⟨fun _ h => (by cases h), fun i a b h => by simp at h⟩
theorem foldl_same : ∀ (bs out : List (Bool × List Int)), Good (out ++ bs) → bs.foldl mergeB out = out ++ bs
  | [], out, _ => by simp
  | b :: bs, out, h => by
    have h1 : mergeB out b = out ++ [b] := by
      unfold mergeB
      rw [if_neg (h.ne b (by simp))]
      split
      · rename_i a ha
        rw [List.getLast?_eq_getElem?] at ha
        have hlt := (List.getElem?_eq_some_iff.1 ha).1
        rw [if_neg]
        refine h.alt (out.length - 1) a b (by rw [List.getElem?_append_left hlt]; exact ha) ?_
        rw [show out.length - 1 + 1 = out.length by omega, List.getElem?_append_right (Nat.le_refl _), Nat.sub_self]; rfl
      · rfl
    rw [List.foldl_cons, h1, foldl_same bs (out ++ [b]) (by rw [List.append_assoc]; exact h), List.append_assoc]; rfl
theorem merge_same {bs : List (Bool × List Int)} (h : Good bs) : merge bs = bs := foldl_same bs [] h

theorem vars_take {bs : List (Bool × List Int)} {i : Nat} {b : Bool × List Int} (h : bs[i]? = some b) : vars (bs.take (i + 1)) = vars (bs.take i) ++ b.2 := by
  rw [List.take_add_one, h, vars_append]; simp [vars]
theorem vars_take_le (bs : List (Bool × List Int)) (i : Nat) : (vars (bs.take i)).length ≤ (vars bs).length := by
  conv => rhs; rw [← List.take_append_drop i bs]
  rw [vars_append, List.length_append]; omega
theorem total_vars (bs : List (Bool × List Int)) : total bs = (vars bs).length := by simp [total, vars, List.length_flatten]; congr 1

theorem merges_plain {σ : Heap} {bs : List (Bool × List Int)} {x : AVal} (hx : SlV vB σ bs x) : ∃ τ, S.skolemlaw6_PrefixMerges x σ = some (true, τ) := by
  unfold S.skolemlaw6_PrefixMerges
  obtain ⟨σ1, e1, L1⟩ := first6_eq σ
  rw [e1]
  simp only [Option.bind_some, Bool.not_true, cond_false]
  rw [hx.len]
  by_cases hn : bs.length > 8
  · have : decide ((bs.length : Int) > 8) = true := decide_eq_true (by omega)
    simp only [this, cond_true]
    exact ⟨σ1, rfl⟩
  · have : decide ((bs.length : Int) > 8) = false := decide_eq_false (by omega)
    simp only [this, cond_false]
    have hx1 := hx.mono L1
    obtain ⟨r, τ, e2, L2, hr⟩ := loopW_inv (f := S.skolemlaw6_PrefixMerges.b0 x true) (x := (.nils, (0 : Int))) (σ := σ1) bs.length
      (fun i y τ => y.2 = (i : Int) ∧ Hle σ1 τ ∧ Acc .int σ1.next τ (vars (bs.take i)) y.1 ∧ (∀ j b, j < i → bs[j]? = some b → b.2.length ≤ 30))
      (fun r τ => Hle σ1 τ ∧ (r = .inr true ∨ ∃ y, r = .inl y ∧ Acc .int σ1.next τ (vars bs) y ∧ ∀ b ∈ bs, b.2.length ≤ 30))
      (fun i y τ hi hI => by
        obtain ⟨h1, L, hA, hsm⟩ := hI
        obtain ⟨y, j⟩ := y
        simp only at h1; subst h1
        obtain ⟨b, hb⟩ : ∃ b, bs[i]? = some b := ⟨_, List.getElem?_eq_getElem hi⟩
        obtain ⟨p, us, c2, c3, c1⟩ := hx1.ix hb
        obtain ⟨v, rfl, hv⟩ := vB_rel c3
        obtain ⟨q, f1, f2⟩ := (c2.mono L).fld 1 (by simp)
        have f2 : At τ q [v] := f2
        have hd : decide ((i : Int) < (bs.length : Int)) = true := decide_eq_true (by omega)
        have w2 : IntKind.i64.wrap ((i : Int) + 1) = ((i + 1 : Nat) : Int) := by rw [wrapS] <;> omega
        unfold S.skolemlaw6_PrefixMerges.b0
        rw [hx.len]
        simp only [hd, cond_true, w2]
        rw [show ixA τ x 2 = ixA τ x vB.sz from rfl, c1 L, f1, f2.ld]
        simp only [asK]
        rw [hv.len]
        by_cases hlong : b.2.length > 30
        · have : decide ((b.2.length : Int) > 30) = true := decide_eq_true (by omega)
          simp only [this, cond_true]
          exact .inr ⟨_, τ, rfl, L, .inl rfl⟩
        · have : decide ((b.2.length : Int) > 30) = false := decide_eq_false (by omega)
          simp only [this, cond_false]
          rw [c1 L, f1, f2.ld]
          simp only [asK]
          have hle : (vars (bs.take i)).length ≤ i * 30 := by
            rw [← total_vars]
            clear hA
            induction i with
            | zero => simp [total]
            | succ i ih =>
              obtain ⟨c, hc⟩ : ∃ c, bs[i]? = some c := ⟨_, List.getElem?_eq_getElem (by omega)⟩
              have h3 := hsm i c (by omega) hc
              have h4 : total (bs.take i) ≤ i * 30 := by
                clear ih
                have : ∀ k, k ≤ i → total (bs.take k) ≤ k * 30 := by
                  intro k
                  induction k with
                  | zero => intro _; simp [total]
                  | succ k ih =>
                    intro hk
                    obtain ⟨d, hd⟩ : ∃ d, bs[k]? = some d := ⟨_, List.getElem?_eq_getElem (by omega)⟩
                    have h5 := hsm k d (by omega) hd
                    have h6 := ih (by omega)
                    rw [List.take_add_one, hd, total_append]; simp [total] at h6 ⊢; omega
                exact this i (Nat.le_refl _)
              rw [List.take_add_one, hc, total_append]; simp [total] at h4 ⊢; omega
          obtain ⟨y', τ', a1, a2, a3, _⟩ := hA.app (bytes := 8) L (hv.mono (hA.out_le L)) (by omega) (by omega)
          have a1 : ∀ {Rt : Type} (K : AVal → Heap → Option Rt), appS τ 1 8 y v K = K y' τ' := a1
          rw [a1]
          refine .inl ⟨_, τ', rfl, rfl, a2, by rw [vars_take hb]; exact a3, fun j c hj hc => ?_⟩
          rcases Nat.lt_succ_iff_lt_or_eq.1 hj with hj | rfl
          · exact hsm j c hj hc
          · rw [hb] at hc; cases hc; omega)
      (fun y τ hI => by
        obtain ⟨h1, L, hA, hsm⟩ := hI
        obtain ⟨y, j⟩ := y
        simp only at h1; subst h1
        refine ⟨.inl y, τ, ?_, L, .inr ⟨y, rfl, by rw [List.take_length] at hA; exact hA, fun b hb => ?_⟩⟩
        · unfold S.skolemlaw6_PrefixMerges.b0
          have hd : decide ((bs.length : Int) < (bs.length : Int)) = false := by simp
          rw [hx.len]; simp only [hd, cond_false]
        · obtain ⟨k, hk, e⟩ := List.getElem_of_mem hb
          exact hsm k b hk (by rw [List.getElem?_eq_getElem hk, e])) ⟨rfl, Hle.refl _, by simpa [vars] using Acc.nil .int σ1.next σ1, fun j b hj => by omega⟩
    rw [e2]
    simp only [Option.bind_some]
    rcases hr with rfl | ⟨y, rfl, hA, hsm⟩
    · exact ⟨τ, rfl⟩
    · simp only []
      have hsmall : total bs ≤ 240 := by
        have : ∀ (l : List (Bool × List Int)), (∀ b ∈ l, b.2.length ≤ 30) → total l ≤ l.length * 30 := by
          intro l
          induction l with
          | nil => intro _; simp [total]
          | cons b l ih => intro h; have := ih fun c hc => h c (List.mem_cons_of_mem _ hc); have := h b List.mem_cons_self; simp [total] at *; omega
        have := this bs hsm; omega
      obtain ⟨m, τ1, e3, L3, hm⟩ := merge_eq (hx1.mono L2) (by omega) (by omega)
      rw [e3]
      simp only [Option.bind_some]
      obtain ⟨g1, g2⟩ := foldl_merge bs []
      have hml : (merge bs).length ≤ 8 := by have : (merge bs).length ≤ 0 + bs.length := g2; omega
      have hmt : total (merge bs) ≤ 240 := by have : total (merge bs) = total [] + total bs := g1; simp [total] at this; simp [total] at hsmall ⊢; omega
      have hG := merge_good bs
      obtain ⟨r, τ2, e4, L4, y2, rfl, hA2⟩ := loopW_inv (f := S.skolemlaw6_PrefixMerges.b1 true y m) (x := (.nils, (0 : Int))) (σ := τ1) (merge bs).length
        (fun i z τ => z.2 = (i : Int) ∧ Hle τ1 τ ∧ Acc .int τ1.next τ (vars ((merge bs).take i)) z.1)
        (fun r τ => Hle τ1 τ ∧ ∃ z, r = .inl z ∧ Acc .int τ1.next τ (vars (merge bs)) z)
        (fun i z τ hi hI => by
          obtain ⟨h1, L, hB⟩ := hI
          obtain ⟨z, j⟩ := z
          simp only at h1; subst h1
          obtain ⟨b, hb⟩ : ∃ b, (merge bs)[i]? = some b := ⟨_, List.getElem?_eq_getElem hi⟩
          obtain ⟨p, us, c2, c3, c1⟩ := hm.sl.ix hb
          obtain ⟨v, rfl, hv⟩ := vB_rel c3
          obtain ⟨q, f1, f2⟩ := (c2.mono L).fld 1 (by simp)
          have f2 : At τ q [v] := f2
          have hd : decide ((i : Int) < ((merge bs).length : Int)) = true := decide_eq_true (by omega)
          have w2 : IntKind.i64.wrap ((i : Int) + 1) = ((i + 1 : Nat) : Int) := by rw [wrapS] <;> omega
          have hb0 : ((b.2.length : Int) == 0) = false := by
            have := hG.ne b (List.mem_of_getElem? hb)
            have : b.2.length ≠ 0 := fun e => this (List.eq_nil_of_length_eq_zero e)
            simpa using this
          have hcond : ∀ (R : Type) (K : Bool → Option R), (cond (decide ((i : Int) > 0)) (ixA τ m 2 (i : Int) fun a31 => fld a31 0 fun a32 => ld τ a32 (.B) fun b33 => ixA τ m 2 (IntKind.i64.wrap ((i : Int) - 1)) fun a34 => fld a34 0 fun a35 => ld τ a35 (.B) fun b36 => some (b33 == b36)) (some false)).bind K = K false := by
            intro R K
            by_cases h0 : i = 0
            · subst h0; rfl
            · have : decide ((i : Int) > 0) = true := decide_eq_true (by omega)
              simp only [this, cond_true]
              obtain ⟨d, hd⟩ : ∃ d, (merge bs)[i - 1]? = some d := ⟨_, List.getElem?_eq_getElem (by omega)⟩
              obtain ⟨p', us', d2, d3, d1⟩ := hm.sl.ix hd
              obtain ⟨v', rfl, _⟩ := vB_rel d3
              obtain ⟨q0, f3, f4⟩ := (c2.mono L).fld 0 (by simp)
              obtain ⟨q1, f5, f6⟩ := (d2.mono L).fld 0 (by simp)
              have f4 : At τ q0 (.bool b.1 :: [v]) := f4
              have f6 : At τ q1 (.bool d.1 :: [v']) := f6
              have w3 : IntKind.i64.wrap ((i : Int) - 1) = ((i - 1 : Nat) : Int) := by rw [wrapS] <;> omega
              rw [show ixA τ m 2 = ixA τ m vB.sz from rfl, c1 L, f3, f4.ld]
              simp only [asK]
              rw [w3, d1 L, f5, f6.ld]
              simp only [asK]
              have := hG.alt (i - 1) d b hd (by rw [show i - 1 + 1 = i by omega]; exact hb)
              have : (b.1 == d.1) = false := by simpa using fun e => this e.symm
              rw [this]; rfl
          refine .inl ?_
          unfold S.skolemlaw6_PrefixMerges.b1
          rw [hm.len]
          simp only [hd, cond_true, w2]
          rw [show ixA τ m 2 (i : Int) = ixA τ m vB.sz (i : Int) from rfl, c1 L, f1, f2.ld]
          simp only [asK]
          rw [hv.len]
          simp only [hb0, cond_false]
          rw [show ixA τ m vB.sz = ixA τ m 2 from rfl, hcond]
          simp only [cond_false]
          rw [show ixA τ m 2 = ixA τ m vB.sz from rfl, c1 L, f1, f2.ld]
          simp only [asK]
          have h5 := vars_take_le (merge bs) i
          have h6 := total_mem (List.mem_of_getElem? hb)
          rw [← total_vars, ← total_vars] at h5
          obtain ⟨z', τ', a1, a2, a3, _⟩ := hB.app (bytes := 8) L (hv.mono (hB.out_le L)) (by rw [← total_vars]; omega) (by rw [← total_vars]; omega)
          have a1 : ∀ {Rt : Type} (K : AVal → Heap → Option Rt), appS τ 1 8 z v K = K z' τ' := a1
          rw [a1]
          exact ⟨_, τ', rfl, rfl, a2, by rw [vars_take hb]; exact a3⟩)
        (fun z τ hI => by
          obtain ⟨h1, L, hB⟩ := hI
          obtain ⟨z, j⟩ := z
          simp only at h1; subst h1
          refine ⟨.inl z, τ, ?_, L, z, rfl, by rw [List.take_length] at hB; exact hB⟩
          unfold S.skolemlaw6_PrefixMerges.b1
          have hd : decide (((merge bs).length : Int) < ((merge bs).length : Int)) = false := by simp
          rw [hm.len]; simp only [hd, cond_false]) ⟨rfl, Hle.refl _, by simpa [vars] using Acc.nil .int τ1.next τ1⟩
      rw [e4]
      simp only [Option.bind_some, cond_true]
      rw [sameInts_eq hA2.sl ((hA.mono L3).mono L4).sl (by rw [← total_vars]; omega), merge_vars]
      simp only [Option.bind_some, decide_true, cond_true]
      obtain ⟨m2, τ3, e5, L5, hm2⟩ := merge_eq (hm.mono L4).sl (by omega) (by omega)
      rw [e5]
      simp only [Option.bind_some]
      rw [merge_same hG] at hm2
      obtain ⟨τ4, e6, _⟩ := sameBlocks_eq hm2.sl ((hm.mono L4).mono L5).sl (by omega) (fun a ha => by have := total_mem ha; omega)
      rw [e6]
      simp only [Option.bind_some, decide_true]
      exact ⟨τ4, rfl⟩
end Go.Proofs.YtgneblbblihaoaaDoor.A

/- Free variables: the program's way, the reference's way. -/
namespace Go.Proofs.YtgneblbblihaoaaDoor.A
open Go

/-! ### Rising lists -/
def Rising (xs : List Int) : Prop := xs.Pairwise (· < ·)
theorem rising_ext : ∀ {xs ys : List Int}, Rising xs → Rising ys → (∀ v, v ∈ xs ↔ v ∈ ys) → xs = ys
  | [], [], _, _, _ => rfl
  | [], y :: ys, _, _, h => by have := (h y).2 (by simp); cases this
  | x :: xs, [], _, _, h => by have := (h x).1 (by simp); cases this
  | x :: xs, y :: ys, hx, hy, h => by
    have hx' := List.pairwise_cons.1 hx
    have hy' := List.pairwise_cons.1 hy
    have exy : x = y := by
      have h1 := (h x).1 (by simp)
      have h2 := (h y).2 (by simp)
      rcases List.mem_cons.1 h1 with h1 | h1
      · exact h1
      · rcases List.mem_cons.1 h2 with h2 | h2
        · exact h2.symm
        · have := hx'.1 y h2; have := hy'.1 x h1; omega
    subst exy
    rw [rising_ext hx'.2 hy'.2 fun v => ?_]
    constructor
    · intro hv
      rcases List.mem_cons.1 ((h v).1 (List.mem_cons_of_mem _ hv)) with e | h2
      · subst e; have := hx'.1 v hv; omega
      · exact h2
    · intro hv
      rcases List.mem_cons.1 ((h v).2 (List.mem_cons_of_mem _ hv)) with e | h2
      · subst e; have := hy'.1 v hv; omega
      · exact h2
theorem sorted_mem (zs : List Int) (v : Int) : v ∈ sorted zs ↔ v ∈ zs := by unfold sorted; exact List.mem_mergeSort
theorem sorted_rising {zs : List Int} (h : zs.Nodup) : Rising (sorted zs) := by
  have h1 : (sorted zs).Pairwise (fun a b => decide (a ≤ b) = true) := List.pairwise_mergeSort (fun a b c h1 h2 => by simp at *; omega) (fun a b => by simp; omega) zs
  have h2 : (sorted zs).Nodup := (List.mergeSort_perm zs _).nodup_iff.2 h
  exact (h1.and h2).imp fun ⟨a, b⟩ => by simp at a; omega
def ddup : List Int → List Int
  | [] => []
  | x :: xs => if x ∈ xs then ddup xs else x :: ddup xs
theorem ddup_mem {v : Int} : ∀ {xs : List Int}, v ∈ ddup xs ↔ v ∈ xs
  | [] => Iff.rfl
  | x :: xs => by
    rw [ddup]
    split
    · rename_i h
      rw [ddup_mem, List.mem_cons]
      exact ⟨.inr, fun e => e.elim (fun e => e ▸ h) id⟩
    · rw [List.mem_cons, List.mem_cons, ddup_mem]
theorem ddup_nodup : ∀ xs : List Int, (ddup xs).Nodup
  | [] => List.nodup_nil
  | x :: xs => by
    rw [ddup]
    split
    · exact ddup_nodup xs
    · rename_i h
      exact List.nodup_cons.2 ⟨fun e => h (ddup_mem.1 e), ddup_nodup xs⟩
/-- The free variables. -/
def free (bs : List (Bool × List Int)) (cs : List (List Int)) : List Int := sorted (ddup ((cs.flatten.map fun l => (l.natAbs : Int)).filter fun v => !decide (v ∈ vars bs)))
theorem free_mem (bs : List (Bool × List Int)) (cs : List (List Int)) (v : Int) : v ∈ free bs cs ↔ (∃ c ∈ cs, ∃ l ∈ c, (l.natAbs : Int) = v) ∧ v ∉ vars bs := by
  unfold free
  rw [sorted_mem]
  simp only [ddup_mem, List.mem_filter, List.mem_map, List.mem_flatten, Bool.not_eq_true', decide_eq_false_iff_not]
  constructor
  · rintro ⟨⟨l, ⟨c, hc, hl⟩, e⟩, h⟩; exact ⟨⟨c, hc, l, hl, e⟩, h⟩
  · rintro ⟨⟨c, hc, l, hl, e⟩, h⟩; exact ⟨⟨l, ⟨c, hc, hl⟩, e⟩, h⟩
theorem free_rising (bs : List (Bool × List Int)) (cs : List (List Int)) : Rising (free bs cs) := sorted_rising (ddup_nodup _)

/-- The keys of a map. -/
def KeyM (ps : List (Int × AVal)) (P : Int → Prop) : Prop := ∀ v, v ∈ keysOf ps ↔ P v
theorem key_look {ps : List (Int × AVal)} {v : Int} : v ∈ keysOf ps ↔ look ps v ≠ none := by
  have := look_none (ps := ps) (n := v)
  constructor
  · intro h e; exact this.1 e h
  · intro h; exact Classical.byContradiction fun k => h (this.2 k)
theorem KeyM.put {ps qs : List (Int × AVal)} {P : Int → Prop} (h : KeyM ps P) {n : Int} {x : AVal} (hq : ∀ k, look qs k = if k = n then some x else look ps k) : KeyM qs fun v => P v ∨ v = n := fun v => by
  rw [key_look, hq]
  by_cases hv : v = n
  · simp [hv]
  · rw [if_neg hv, ← key_look, h v]; simp [hv]
theorem KeyM.del {ps qs : List (Int × AVal)} {P : Int → Prop} (h : KeyM ps P) {n : Int} (hq : ∀ k, look qs k = if k = n then none else look ps k) : KeyM qs fun v => P v ∧ v ≠ n := fun v => by
  rw [key_look, hq]
  by_cases hv : v = n
  · simp [hv]
  · rw [if_neg hv, ← key_look, h v]; simp [hv]
theorem KeyM.of {ps : List (Int × AVal)} {P Q : Int → Prop} (h : KeyM ps P) (e : ∀ v, P v ↔ Q v) : KeyM ps Q := fun v => (h v).trans (e v)
theorem W.mdel {R : Type} {σ : Heap} {l : Nat} {ps : List (Int × AVal)} (h : MapV σ l ps) {n : Int} {K : Heap → Option R} {Q : R → Prop}
    (c : ∀ τ qs, MapV τ l qs → (∀ k, look qs k = if k = n then none else look ps k) → Hle (σ.kill l) τ → τ.next = σ.next → qs.length ≤ ps.length → W (K τ) Q) : W (mdelK σ (.map l) .i64 n K) Q := by
  obtain ⟨qs, h1, h2, h3, h4⟩ := h.mdel n
  exact W.to (h1 K) (c _ qs h2 h3 (Hle.kill_set ..) rfl h4)

theorem free_b0 {σ0 σ : Heap} {l : Nat} {c : List Int} {x p q : AVal} {a b : Int} (hx : SlV .int σ0 c x) (hn : Nears c) (hb : c.length ≤ 1000000000) (L : Hle σ0 σ) (hl : σ0.next ≤ l) {ps : List (Int × AVal)} {P : Int → Prop} (hm : MapV σ l ps) (hP : KeyM ps P) :
    W (loopW (S.prefix_Free.b0 p (.map l) q a b x (c.length : Int)) 0 σ) fun r => Hle σ0 r.2 ∧ ∃ qs, MapV r.2 l qs ∧ KeyM qs fun v => P v ∨ ∃ l ∈ c, (l.natAbs : Int) = v := by
  refine W.loop c.length (fun i y τ => y = (i : Int) ∧ Hle σ0 τ ∧ ∃ qs, MapV τ l qs ∧ KeyM qs fun v => P v ∨ ∃ l ∈ c.take i, (l.natAbs : Int) = v) ⟨rfl, L, ps, hm, by simpa using hP⟩ fun i y τ hi hI => ?_
  obtain ⟨rfl, L, qs, hm, hP⟩ := hI
  unfold S.prefix_Free.b0
  repeat' (first | (with_reducible refine W.stop ?_) | (with_reducible refine W.cnd (fun hc => ?_) (fun hc => ?_) <;> (try simp only [q1, q2, q3, q4, q5, q6, q7, q8, q9, q10, q11, q12, q13, q14, q15, q16, q17, q18, q19, q20, q21, q22, q23, q24, q25, q26, q27, q28, q29, q30] at hc) <;> (try (exfalso; omega))))
  · refine W.ixInc (hx.mono L) (by omega) fun v hv => ?_
    refine W.eqn (var_eq (hn v (List.mem_of_getElem? hv))) ?_
    refine W.mput hm fun τ2 qs2 hm2 hq2 L2 hn2 => ?_
    repeat' (with_reducible refine W.next ?_)
    refine ⟨by omega, sk, L.ofk hl L2, qs2, hm2, (hP.put hq2).of fun u => ?_⟩
    rw [List.take_add_one, hv]
    simp only [List.mem_append, Option.toList_some, List.mem_singleton]
    constructor
    · rintro ((h | ⟨z, hz, e⟩) | rfl)
      · exact .inl h
      · exact .inr ⟨z, .inl hz, e⟩
      · exact .inr ⟨v, .inr rfl, rfl⟩
    · rintro (h | ⟨z, hz | rfl, e⟩)
      · exact .inl (.inl h)
      · exact .inl (.inr ⟨z, hz, e⟩)
      · exact .inr e.symm
  · rw [List.take_of_length_le (by omega)] at hP
    exact ⟨L, qs, hm, hP⟩
theorem free_b2 {σ0 σ : Heap} {l : Nat} {c : List Int} {x q : AVal} {a b : Int} (hx : SlV .int σ0 c x) (hb : c.length ≤ 1000000000) (L : Hle σ0 σ) (hl : σ0.next ≤ l) {ps : List (Int × AVal)} {P : Int → Prop} (hm : MapV σ l ps) (hP : KeyM ps P) :
    W (loopW (S.prefix_Free.b2 (.map l) q a b x (c.length : Int)) 0 σ) fun r => Hle σ0 r.2 ∧ ∃ qs, MapV r.2 l qs ∧ KeyM qs fun v => P v ∧ v ∉ c := by
  refine W.loop c.length (fun i y τ => y = (i : Int) ∧ Hle σ0 τ ∧ ∃ qs, MapV τ l qs ∧ KeyM qs fun v => P v ∧ v ∉ c.take i) ⟨rfl, L, ps, hm, by simpa using hP⟩ fun i y τ hi hI => ?_
  obtain ⟨rfl, L, qs, hm, hP⟩ := hI
  unfold S.prefix_Free.b2
  repeat' (first | (with_reducible refine W.stop ?_) | (with_reducible refine W.cnd (fun hc => ?_) (fun hc => ?_) <;> (try simp only [q1, q2, q3, q4, q5, q6, q7, q8, q9, q10, q11, q12, q13, q14, q15, q16, q17, q18, q19, q20, q21, q22, q23, q24, q25, q26, q27, q28, q29, q30] at hc) <;> (try (exfalso; omega))))
  · refine W.ixInc (hx.mono L) (by omega) fun v hv => ?_
    refine W.mdel hm fun τ2 qs2 hm2 hq2 L2 hn2 _ => ?_
    repeat' (with_reducible refine W.next ?_)
    refine ⟨by omega, sk, L.ofk hl L2, qs2, hm2, (hP.del hq2).of fun u => ?_⟩
    rw [List.take_add_one, hv]
    simp only [List.mem_append, Option.toList_some, List.mem_singleton, not_or, and_assoc]
  · rw [List.take_of_length_le (by omega)] at hP
    exact ⟨L, qs, hm, hP⟩

theorem sortedKeys_w {σ : Heap} {l : Nat} {ps : List (Int × AVal)} (hm : MapV σ l ps) (hb : ps.length ≤ 1000000000) (hr : ∀ v ∈ keysOf ps, -9223372036854775808 ≤ v ∧ v ≤ 9223372036854775807) :
    W ((S.maps_Keys_map_int_bool_int_bool (.map l) σ).bind fun r => S.slices_Sorted_int r.1 r.2) fun r => Hle σ r.2 ∧ Acc .int σ.next r.2 (sorted (keysOf ps)) r.1 := by
  unfold S.maps_Keys_map_int_bool_int_bool S.slices_Sorted_int keysS
  simp only [hm.get, Option.bind_some, sortedKeysS, if_true, hnew_get]
  have hne : l ≠ σ.next := by have := hm.lt; omega
  rw [if_neg hne]
  simp only []
  have e : (ents ps).map (·.1) = (keysOf ps).map (.int .i64) := by simp [ents, keysOf]
  rw [e, intsL_map]
  simp only []
  have h1 : (keysOf ps).length ≤ 1099511627776 := by simp [keysOf]; omega
  have h2 : (keysOf ps).all inI64 = true := List.all_eq_true.2 fun v hv => by have := hr v hv; simp [inI64, this]
  rw [if_pos ⟨h1, h2⟩]
  have L := (Hle.refl σ).new (.cells .rw 1 [.map l])
  cases hk : keysOf ps with
  | nil => exact W.ret ⟨L, by simpa [sorted] using Acc.nil _ _ _⟩
  | cons z zs =>
    refine W.ret ⟨L.new _, .inr ⟨_, _, ?_, ?_, Nat.lt_succ_self _, by rw [hnew_get, if_pos rfl]; rfl, ?_, fun i a hi => ?_⟩⟩
    · simp only [sorted_len]
    · exact L.next
    · simp [sorted_len, Vw.int]
    · show _ = _
      have := (List.getElem?_eq_some_iff.1 hi).1
      simp only [Vw.int, Nat.mul_one]
      rw [List.drop_eq_getElem_cons (by simpa using this)]
      obtain ⟨h3, h4⟩ := List.getElem?_eq_some_iff.1 hi
      simp [h4]
end Go.Proofs.YtgneblbblihaoaaDoor.A

/- Free variables, whole. -/
namespace Go.Proofs.YtgneblbblihaoaaDoor.A
open Go

theorem W.ub {R S : Type} {o : Option S} {K : S → Option R} {Q : R → Prop} (h : W (o.bind K) Q) : W o fun r => W (K r) Q := by
  obtain ⟨r, he, hq⟩ := h
  rw [Option.bind_eq_some_iff] at he
  obtain ⟨a, h5, h6⟩ := he
  exact ⟨a, h5, r, h6, hq⟩
theorem nodup_len : ∀ {xs ys : List Int}, xs.Nodup → (∀ v ∈ xs, v ∈ ys) → xs.length ≤ ys.length
  | [], ys, _, _ => by simp
  | x :: xs, ys, h, k => by
    have hx := List.nodup_cons.1 h
    have := nodup_len (ys := ys.erase x) hx.2 (fun v hv => (List.mem_erase_of_ne (fun e => hx.1 (by rw [← e]; exact hv))).2 (k v (List.mem_cons_of_mem _ hv)))
    rw [List.length_erase_of_mem (k x List.mem_cons_self)] at this
    have := List.length_pos_of_mem (k x List.mem_cons_self)
    simp; omega
theorem vars_mem {bs : List (Bool × List Int)} {v : Int} : v ∈ vars bs ↔ ∃ b ∈ bs, v ∈ b.2 := by
  simp only [vars, List.mem_flatten, List.mem_map]
  constructor
  · rintro ⟨l, ⟨b, hb, rfl⟩, h⟩; exact ⟨b, hb, h⟩
  · rintro ⟨b, hb, h⟩; exact ⟨_, ⟨b, hb, rfl⟩, h⟩

theorem free_w {σ : Heap} {n : Int} {bs : List (Bool × List Int)} {cs : List (List Int)} {xb xc : AVal} (hb : SlV vB σ bs xb) (hcs : SlV vIs σ cs xc) (h1 : cs.flatten.length ≤ 1000000000) (h2 : cs.length ≤ 1000000000) (h3 : bs.length ≤ 1000000000)
    (h4 : ∀ b ∈ bs, b.2.length ≤ 1000000000) (hn : ∀ c ∈ cs, Nears c) : W (S.prefix_Free (.agg [xb, .int .i64 n, xc]) σ) fun r => Hle σ r.2 ∧ Acc .int σ.next r.2 (free bs cs) r.1 := by
  unfold S.prefix_Free
  repeat' (with_reducible refine W.aggK (by with_unfolding_all rfl) ?_)
  refine W.new fun lf τ hlf L hf hnτ => ?_
  replace hb := hb.mono L
  replace hcs := hcs.mono L
  have hnx := L.next
  refine W.newM fun l τ2 hl L2 hm hn2 => ?_
  have hf2 := hf.mono L2
  have hc2 := hcs.mono L2
  repeat' (with_reducible (first | refine W.bind ?_ | refine W.asV ?_ | refine W.len (by assumption) ?_ | refine W.ldL (by assumption) (by with_unfolding_all rfl) ?_))
  have key1 : W (loopW (S.prefix_Free.b1 (.ptr lf 0) (.map l) xc (cs.length : Int)) 0 τ2) fun r => Hle τ r.2 ∧ ∃ qs, MapV r.2 l qs ∧ KeyM qs fun v => ∃ c ∈ cs, ∃ l ∈ c, (l.natAbs : Int) = v := by
    refine W.loop cs.length (fun i y τ' => y = (i : Int) ∧ Hle τ τ' ∧ ∃ qs, MapV τ' l qs ∧ KeyM qs fun v => ∃ c ∈ cs.take i, ∃ l ∈ c, (l.natAbs : Int) = v) ⟨rfl, L2, [], hm, fun v => by simp [keysOf]⟩ fun i y τ' hi hI => ?_
    obtain ⟨rfl, L', qs, hm, hP⟩ := hI
    unfold S.prefix_Free.b1
    (with_reducible refine W.cnd (fun hc => ?_) (fun hc => ?_) <;> (try simp only [q1, q2, q3, q4, q5, q6, q7, q8, q9, q10, q11, q12, q13, q14, q15, q16, q17, q18, q19, q20, q21, q22, q23, q24, q25, q26, q27, q28, q29, q30] at hc) <;> (try (exfalso; omega)))
    · refine W.ixLS hcs L' (by omega) fun c x hci hx => ?_
      have hx' := hx.mono L'
      have hcl := flat_mem (List.mem_of_getElem? hci)
      repeat' (with_reducible (first | refine W.bind ?_ | refine W.len (by assumption) ?_))
      refine W.mono (free_b0 hx (hn c (List.mem_of_getElem? hci)) (by omega) L' (by omega) hm hP) fun r hr => ?_
      obtain ⟨L3, qs3, hm3, hP3⟩ := hr
      repeat' (with_reducible refine W.next ?_)
      refine ⟨by omega, sk, L3, qs3, hm3, hP3.of fun v => ?_⟩
      rw [List.take_add_one, hci]
      simp only [List.mem_append, Option.toList_some, List.mem_singleton]
      constructor
      · rintro (⟨c', hc', h⟩ | h)
        · exact ⟨c', .inl hc', h⟩
        · exact ⟨c, .inr rfl, h⟩
      · rintro ⟨c', hc' | rfl, h⟩
        · exact .inl ⟨c', hc', h⟩
        · exact .inr h
    · repeat' (with_reducible refine W.stop ?_)
      rw [List.take_of_length_le (by omega)] at hP
      exact ⟨L', qs, hm, hP⟩
  refine W.mono key1 fun r hr => ?_
  obtain ⟨r, τ3⟩ := r
  obtain ⟨L3, qs, hm3, hP3⟩ := hr
  dsimp only at L3 hm3 ⊢
  have hf3 := hf.mono L3
  have hb3 := hb.mono L3
  repeat' (with_reducible (first | refine W.bind ?_ | refine W.asV ?_ | refine W.len (by assumption) ?_ | refine W.ldL (by assumption) (by with_unfolding_all rfl) ?_))
  have key2 : W (loopW (S.prefix_Free.b3 (.map l) xb (bs.length : Int)) 0 τ3) fun r => Hle τ r.2 ∧ ∃ qs, MapV r.2 l qs ∧ KeyM qs fun v => (∃ c ∈ cs, ∃ l ∈ c, (l.natAbs : Int) = v) ∧ v ∉ vars bs := by
    refine W.loop bs.length (fun i y τ' => y = (i : Int) ∧ Hle τ τ' ∧ ∃ qs, MapV τ' l qs ∧ KeyM qs fun v => (∃ c ∈ cs, ∃ l ∈ c, (l.natAbs : Int) = v) ∧ v ∉ vars (bs.take i)) ⟨rfl, L3, qs, hm3, by simpa [vars] using hP3⟩ fun i y τ' hi hI => ?_
    obtain ⟨rfl, L', qs, hm, hP⟩ := hI
    unfold S.prefix_Free.b3
    (with_reducible refine W.cnd (fun hc => ?_) (fun hc => ?_) <;> (try simp only [q1, q2, q3, q4, q5, q6, q7, q8, q9, q10, q11, q12, q13, q14, q15, q16, q17, q18, q19, q20, q21, q22, q23, q24, q25, q26, q27, q28, q29, q30] at hc) <;> (try (exfalso; omega)))
    · refine W.ixL hb L' (by omega) fun p us b hbi hp hr => ?_
      obtain ⟨x, rfl, hx⟩ := vB_rel hr
      have hp' := hp.mono L'
      repeat' (with_reducible refine W.ldGG (by assumption) (by with_unfolding_all rfl) ?_)
      refine W.new fun j τ4 hj L4 hj hnτ4 => ?_
      repeat' (with_reducible refine W.aggK (by with_unfolding_all rfl) ?_)
      refine W.st0 hj (by rfl) fun τ5 L5 hnτ5 hj => ?_
      have hlt := hm.lt
      have hm5 := ((hm.mono L4).kill (k := j) (by omega)).mono L5
      have hx5 := (hx.mono L').mono (L4.ofk (by omega) L5)
      replace L' := L'.mono (L4.ofk (by omega) L5)
      repeat' (with_reducible (first | refine W.bind ?_ | refine W.asV ?_ | refine W.len (by assumption) ?_ | refine W.ldL (by assumption) (by with_unfolding_all rfl) ?_))
      refine W.mono (free_b2 hx (h4 b (List.mem_of_getElem? hbi)) L' (by omega) hm5 hP) fun r hr => ?_
      obtain ⟨L6, qs3, hm6, hP6⟩ := hr
      repeat' (with_reducible refine W.next ?_)
      refine ⟨by omega, sk, L6, qs3, hm6, hP6.of fun v => ?_⟩
      rw [List.take_add_one, hbi, vars_append]
      simp [vars, and_assoc]
    · repeat' (with_reducible refine W.stop ?_)
      rw [List.take_of_length_le (by omega)] at hP
      exact ⟨L', qs, hm, hP⟩
  refine W.mono key2 fun r hr => ?_
  obtain ⟨r, τ4⟩ := r
  obtain ⟨L4, qs, hm4, hP4⟩ := hr
  dsimp only at L4 hm4 ⊢
  have hsub : ∀ v ∈ keysOf qs, v ∈ cs.flatten.map (fun l => (l.natAbs : Int)) := fun v hv => by
    obtain ⟨⟨c, hc, l, hl, e⟩, _⟩ := (hP4 v).1 hv
    exact List.mem_map.2 ⟨l, List.mem_flatten.2 ⟨c, hc, hl⟩, e⟩
  have hlen : qs.length ≤ 1000000000 := by
    have := nodup_len hm4.nodup hsub
    simp only [keysOf, List.length_map] at this
    omega
  have hrg : ∀ v ∈ keysOf qs, -9223372036854775808 ≤ v ∧ v ≤ 9223372036854775807 := fun v hv => by
    obtain ⟨⟨c, hc, l, hl, e⟩, _⟩ := (hP4 v).1 hv
    have := hn c hc l hl
    omega
  have e : sorted (keysOf qs) = free bs cs := rising_ext (sorted_rising hm4.nodup) (free_rising bs cs) fun v => by
    rw [sorted_mem, hP4 v, free_mem]
  have hk := sortedKeys_w hm4 hlen hrg
  rw [e] at hk
  repeat' (with_reducible refine W.bind ?_)
  refine W.mono (W.ub hk) fun r hr => ?_
  repeat' (with_reducible refine W.bind ?_)
  refine W.mono hr fun r' h56 => ?_
  obtain ⟨h5, h6⟩ := h56
  repeat' (with_reducible refine W.ret ?_)
  have := L4.next
  exact ⟨L.mono (L4.mono h5), h6.weak (by omega)⟩

/-! ### The reference's way -/
theorem rising_insert {xs : List Int} {v : Int} {j : Nat} (h : Rising xs) (h1 : ∀ a ∈ xs.take j, a < v) (h2 : ∀ a ∈ xs.drop j, v < a) : Rising (xs.take j ++ [v] ++ xs.drop j) := by
  have h0 : Rising (xs.take j ++ xs.drop j) := by rw [List.take_append_drop]; exact h
  obtain ⟨a, b, c⟩ := List.pairwise_append.1 h0
  refine List.pairwise_append.2 ⟨List.pairwise_append.2 ⟨a, by simp, fun x hx y hy => ?_⟩, b, fun x hx y hy => ?_⟩
  · simp at hy; subst hy; exact h1 x hx
  · rcases List.mem_append.1 hx with hx | hx
    · exact c x hx y hy
    · simp at hx; subst hx; exact h2 y hy

/-- The place where a number goes. -/
theorem freePlace_w {σ : Heap} {os : List Int} {y p x : AVal} {i k v : Int} (hO : SlV .int σ os y) (hb : os.length ≤ 1000000000) (hr : Rising os) :
    W (loopP (S.skolemref1_Free.b1 p x y i k v σ) 0) fun r => ∃ j : Nat, r = (j : Int) ∧ j ≤ os.length ∧ (∀ a ∈ os.take j, a < v) ∧ ∀ a ∈ os.drop j, v ≤ a := by
  refine W.loopP os.length (fun j z => z = (j : Int) ∧ ∀ a ∈ os.take j, a < v) ⟨rfl, by simp⟩ fun j z hj hI => ?_
  obtain ⟨rfl, hI⟩ := hI
  unfold S.skolemref1_Free.b1
  repeat' (first | (with_reducible (first | refine W.stopP ?_ | refine W.ret ?_ | refine W.bind ?_ | refine W.len (by assumption) ?_)) | (with_reducible refine W.condF ?_ ?_; focus (first | (simp only [q1, q2, q3, q4, q5, q6, q7, q8, q9, q10, q11, q12, q13, q14, q15, q16, q17, q18, q19, q20, q21, q22, q23, q24, q25, q26, q27, q28, q29, q30]; done) | (simp only [q1, q2, q3, q4, q5, q6, q7, q8, q9, q10, q11, q12, q13, q14, q15, q16, q17, q18, q19, q20, q21, q22, q23, q24, q25, q26, q27, q28, q29, q30]; omega) | assumption)) | (with_reducible refine W.cnd (fun hc => ?_) (fun hc => ?_) <;> (try simp only [q1, q2, q3, q4, q5, q6, q7, q8, q9, q10, q11, q12, q13, q14, q15, q16, q17, q18, q19, q20, q21, q22, q23, q24, q25, q26, q27, q28, q29, q30] at hc) <;> (try (exfalso; omega))))
  · refine W.ixInc hO (by omega) fun a ha => ?_
    repeat' (with_reducible refine W.ret ?_)
    (with_reducible refine W.cnd (fun hq => ?_) (fun hq => ?_) <;> (try simp only [q1, q2, q3, q4, q5, q6, q7, q8, q9, q10, q11, q12, q13, q14, q15, q16, q17, q18, q19, q20, q21, q22, q23, q24, q25, q26, q27, q28, q29, q30] at hq) <;> (try (exfalso; omega)))
    · repeat' (with_reducible refine W.nextP ?_)
      refine ⟨by omega, sk, fun u hu => ?_⟩
      rw [List.take_add_one, ha] at hu
      simp at hu
      rcases hu with hu | rfl
      · exact hI u hu
      · exact hq
    · repeat' (with_reducible refine W.stopP ?_)
      refine ⟨j, rfl, by omega, hI, fun u hu => ?_⟩
      rw [drop_at ha] at hu
      have h2 : Rising (os.drop j) := List.Pairwise.drop hr
      rw [drop_at ha] at h2
      rcases List.mem_cons.1 hu with rfl | hu
      · exact hq
      · have := (List.pairwise_cons.1 h2).1 u hu; omega
  · refine ⟨j, rfl, hj, hI, fun u hu => ?_⟩
    rw [List.drop_eq_nil_of_le (by omega)] at hu; cases hu

theorem slv_take {α : Type} {v : Vw α} {σ τ : Heap} {xs : List α} {x : AVal} (h : SlV v σ xs x) (L : Hle σ τ) {j : Nat} (hj : j ≤ xs.length) {R : Type} {K : AVal → Option R} {Q : R → Prop} (c : ∀ y, SlV v σ (xs.take j) y → W (K y) Q) {sz : Nat} (hs : sz = v.sz := by rfl) : W (slS τ sz x 0 (some (j : Int)) none K) Q := by
  subst hs
  rcases h with ⟨rfl, rfl⟩ | ⟨l, off, cc, md, cs, rfl, h2, h3, h4, h5⟩
  · have : j = 0 := by simpa using hj
    subst this
    exact W.to (by simp [slS]) (c .nils (.inl ⟨rfl, by simp⟩))
  · refine W.to (o' := K (.sl l off j (clipTo none cc 0))) ?_ (c _ (.inr ⟨l, off, _, md, cs, by rw [List.length_take, Nat.min_eq_left hj], h2, h3, ?_, fun i a hi => ?_⟩))
    · simp only [slS, L.get _ _ h2 h3]
      rw [if_pos ⟨trivial, by omega, by simp, by simp; omega, by simp, by simp⟩]
      simp
    · rw [List.length_take, Nat.min_eq_left hj]
      exact Nat.le_trans (Nat.mul_le_mul_right _ (by omega)) h4
    · have hi' := (List.getElem?_eq_some_iff.1 hi).1
      simp at hi'
      rw [List.getElem?_take_of_lt (by omega)] at hi
      exact h5 i a hi
theorem slv_drop {α : Type} {v : Vw α} {σ τ : Heap} {xs : List α} {x : AVal} (h : SlV v σ xs x) (L : Hle σ τ) {j : Nat} (hj : j ≤ xs.length) {R : Type} {K : AVal → Option R} {Q : R → Prop} (c : ∀ y, SlV v σ (xs.drop j) y → W (K y) Q) {sz : Nat} (hs : sz = v.sz := by rfl) : W (slS τ sz x (j : Int) none none K) Q := by
  subst hs
  rcases h with ⟨rfl, rfl⟩ | ⟨l, off, cc, md, cs, rfl, h2, h3, h4, h5⟩
  · have : j = 0 := by simpa using hj
    subst this
    exact W.to (by simp [slS]) (c .nils (.inl ⟨rfl, by simp⟩))
  · refine W.to (o' := K (.sl l (off + j) (xs.length - j) (clipTo none cc (j : Int)))) ?_ (c _ (.inr ⟨l, off + j, _, md, cs, by rw [List.length_drop], h2, h3, ?_, fun i a hi => ?_⟩))
    · simp only [slS, L.get _ _ h2 h3]
      rw [if_pos ⟨trivial, by omega, by simp; omega, by simp, by simp, by simp⟩]
      simp
    · rw [List.length_drop]
      exact Nat.le_trans (Nat.mul_le_mul_right _ (by omega)) h4
    · rw [List.getElem?_drop] at hi
      have := h5 (j + i) a hi
      rwa [← Nat.add_assoc] at this
end Go.Proofs.YtgneblbblihaoaaDoor.A

/- Free variables, by the reference. -/
namespace Go.Proofs.YtgneblbblihaoaaDoor.A
open Go

structure FI (τ ρ : Heap) (V : List Int) (P : Int → Prop) (sx oy : AVal) (N : Nat) (seen outs : List Int) : Prop where
  L : Hle τ ρ
  s : Acc .int τ.next ρ seen sx
  o : Acc .int τ.next (out ρ sx) outs oy
  r : Rising outs
  ms : ∀ v, v ∈ seen ↔ v ∈ V ∨ P v
  mo : ∀ v, v ∈ outs ↔ P v ∧ v ∉ V
  n : seen.length ≤ N
  no : outs.length ≤ N

theorem FI.of {τ ρ : Heap} {V : List Int} {P P' : Int → Prop} {sx oy : AVal} {N N' : Nat} {seen outs : List Int} (h : FI τ ρ V P sx oy N seen outs) (e : ∀ v, P v ↔ P' v) (hN : N ≤ N') : FI τ ρ V P' sx oy N' seen outs :=
  ⟨h.L, h.s, h.o, h.r, fun v => by rw [h.ms, e], fun v => by rw [h.mo, e], Nat.le_trans h.n hN, Nat.le_trans h.no hN⟩

theorem refFree_b2 {τ ρ : Heap} {V c : List Int} {cs : List (List Int)} {P : Int → Prop} {sx oy xb xc : AVal} {lf i N : Nat} {n : Int} {seen outs : List Int} (hf : Loc τ lf [xb, .int .i64 n, xc]) (hcs : SlV vIs τ cs xc) (hi : cs[i]? = some c) (hn : Nears c) (hb : c.length ≤ 400000000) (hN : N ≤ 500000000)
    (h : FI τ ρ V P sx oy N seen outs) : W (loopW (S.skolemref1_Free.b2 (.ptr lf 0) (i : Int)) (sx, oy, 0) ρ) fun r => ∃ seen' outs', FI τ r.2 V (fun v => P v ∨ ∃ l ∈ c, (l.natAbs : Int) = v) r.1.1 r.1.2 (N + c.length) seen' outs' := by
  refine W.loop c.length (fun k y ρ => y.2.2 = (k : Int) ∧ ∃ seen outs, FI τ ρ V (fun v => P v ∨ ∃ l ∈ c.take k, (l.natAbs : Int) = v) y.1 y.2.1 (N + k) seen outs) ⟨rfl, seen, outs, h.of (by simp) (by omega)⟩ fun k y ρ hk hI => ?_
  obtain ⟨sx, oy, j⟩ := y
  obtain ⟨rfl, seen, outs, h⟩ := hI
  dsimp only at h
  have hs := h.n
  have ho := h.no
  have hf' := hf.mono h.L
  unfold S.skolemref1_Free.b2
  dsimp only
  repeat' (with_reducible (first | refine W.asV ?_ | refine W.fldp ?_ | refine W.ldL (by assumption) (by with_unfolding_all rfl) ?_))
  refine W.ixkLS hcs h.L hi fun x hx => ?_
  have hx' := hx.mono h.L
  repeat' (with_reducible refine W.len (by assumption) ?_)
  (with_reducible refine W.cnd (fun hc => ?_) (fun hc => ?_) <;> (try simp only [q1, q2, q3, q4, q5, q6, q7, q8, q9, q10, q11, q12, q13, q14, q15, q16, q17, q18, q19, q20, q21, q22, q23, q24, q25, q26, q27, q28, q29, q30] at hc) <;> (try (exfalso; omega)))
  · repeat' (with_reducible (first | refine W.bind ?_ | refine W.asV ?_ | refine W.fldp ?_ | refine W.ldL (by assumption) (by with_unfolding_all rfl) ?_))
    refine W.ixkLS hcs h.L hi fun x hx => ?_
    refine W.ixInc (hx.mono h.L) (by omega) fun l hl => ?_
    have hl' := hn l (List.mem_of_getElem? hl)
    have htake : ∀ v, (∃ l' ∈ c.take (k + 1), (l'.natAbs : Int) = v) ↔ (∃ l' ∈ c.take k, (l'.natAbs : Int) = v) ∨ v = l.natAbs := fun v => by
      rw [List.take_add_one, hl]
      simp only [List.mem_append, Option.toList_some, List.mem_singleton]
      constructor
      · rintro ⟨z, hz | rfl, e⟩
        · exact .inl ⟨z, hz, e⟩
        · exact .inr e.symm
      · rintro (⟨z, hz, e⟩ | e)
        · exact ⟨z, .inl hz, e⟩
        · exact ⟨l, .inr rfl, e.symm⟩
    refine W.eqn (abs_eq hl') (W.eqn (has_eq h.s.sl (by omega)) ?_)
    have hms : ∀ v, (v ∈ V ∨ P v ∨ ∃ l' ∈ c.take (k + 1), (l'.natAbs : Int) = v) ↔ (v ∈ V ∨ P v ∨ ∃ l' ∈ c.take k, (l'.natAbs : Int) = v) ∨ v = l.natAbs := fun v => by
      rw [htake]; simp only [or_assoc]
    (with_reducible refine W.cnd (fun hq => ?_) (fun hq => ?_) <;> (try simp only [q1, q2, q3, q4, q5, q6, q7, q8, q9, q10, q11, q12, q13, q14, q15, q16, q17, q18, q19, q20, q21, q22, q23, q24, q25, q26, q27, q28, q29, q30] at hq) <;> (try (exfalso; omega)))
    · repeat' (with_reducible (first | refine W.next ?_ | refine W.ret ?_))
      refine ⟨by omega, sk, seen, outs, h.L, h.s, h.o, h.r, fun v => ?_, fun v => ?_, by omega, by omega⟩
      · rw [hms, ← h.ms]
        exact ⟨.inl, fun e => e.elim id fun e => by rw [e]; exact hq⟩
      · rw [htake, h.mo]
        have := (h.ms (l.natAbs : Int)).1 hq
        constructor
        · rintro ⟨h1 | h1, h2⟩
          · exact ⟨.inl h1, h2⟩
          · exact ⟨.inr (.inl h1), h2⟩
        · rintro ⟨h1 | h1 | rfl, h2⟩
          · exact ⟨.inl h1, h2⟩
          · exact ⟨.inr h1, h2⟩
          · exact ⟨this.resolve_left h2, h2⟩
    · have hnv : (l.natAbs : Int) ∉ outs := fun e => hq ((h.ms _).2 (.inr ((h.mo _).1 e).1))
      refine W.pushI h.s h.L (by omega) (by omega) fun sx' ρ2 L2 hs2 X2 => ?_
      have ho2 := h.o.mono X2
      have ho2s := ho2.sl.mono (Hle.out _ _)
      repeat' (with_reducible refine W.bind ?_)
      refine W.mono (freePlace_w ho2s (by omega) h.r) fun r hr => ?_
      obtain ⟨j, rfl, hj, hlt, hge⟩ := hr
      refine slv_take ho2s (Hle.refl _) hj fun y1 hy1 => ?_
      refine W.call (ints_w hy1 (by simp; omega)) fun r hr => ?_
      obtain ⟨z, ρ3⟩ := r
      obtain ⟨hz, L3⟩ := hr
      dsimp only at hz L3 ⊢
      refine W.pushI hz L3 (by simp; omega) (by simp; omega) fun z2 ρ4 L4 hz2 X4 => ?_
      refine slv_drop ho2s L4 hj fun y2 hy2 => ?_
      refine W.app hz2 L4 (hy2.mono (hz2.out_le L4)) (by simp; omega) (by simp; omega) fun z3 ρ5 L5 hz3 _ => ?_
      repeat' (with_reducible (first | refine W.next ?_ | refine W.ret ?_))
      have hnx := L2.next
      refine ⟨by omega, sk, seen ++ [(l.natAbs : Int)], outs.take j ++ [(l.natAbs : Int)] ++ outs.drop j, L2.mono L5, hs2.mono L5, (hz3.aside Vw.int_flat hs2.below).weak hnx, rising_insert h.r hlt (fun a ha => ?_), fun v => ?_, fun v => ?_, by simp; omega, by simp; omega⟩
      · have := hge a ha
        have : a ≠ (l.natAbs : Int) := fun e => hnv (e ▸ List.mem_of_mem_drop ha)
        omega
      · rw [hms, ← h.ms]; simp
      · rw [htake]
        have h1 : v ∈ outs.take j ++ [(l.natAbs : Int)] ++ outs.drop j ↔ v ∈ outs ∨ v = l.natAbs := by
          conv => rhs; rw [← List.take_append_drop j outs]
          simp only [List.mem_append, List.mem_singleton]
          constructor
          · rintro ((a | a) | a)
            · exact .inl (.inl a)
            · exact .inr a
            · exact .inl (.inr a)
          · rintro ((a | a) | a)
            · exact .inl (.inl a)
            · exact .inr a
            · exact .inl (.inr a)
        rw [h1, h.mo]
        have h2 : (l.natAbs : Int) ∉ V := fun e => hq ((h.ms _).2 (.inl e))
        constructor
        · rintro (⟨a | a, b⟩ | rfl)
          · exact ⟨.inl a, b⟩
          · exact ⟨.inr (.inl a), b⟩
          · exact ⟨.inr (.inr rfl), h2⟩
        · rintro ⟨a | a | a, b⟩
          · exact .inl ⟨.inl a, b⟩
          · exact .inl ⟨.inr a, b⟩
          · exact .inr a
  · repeat' (with_reducible refine W.stop ?_)
    refine ⟨seen, outs, h.of (fun v => ?_) (by omega)⟩
    rw [List.take_of_length_le (by omega)]

theorem refFree_w {σ : Heap} {n : Int} {bs : List (Bool × List Int)} {cs : List (List Int)} {xb xc : AVal} (hb : SlV vB σ bs xb) (hcs : SlV vIs σ cs xc) (h1 : cs.flatten.length ≤ 200000000) (h2 : cs.length ≤ 1000000000) (h3 : bs.length ≤ 1000000000)
    (h4 : (vars bs).length ≤ 200000000) (hn : ∀ c ∈ cs, Nears c) : W (S.skolemref1_Free (.agg [xb, .int .i64 n, xc]) σ) fun r => Hle σ r.2 ∧ Acc .int σ.next r.2 (free bs cs) r.1 := by
  unfold S.skolemref1_Free
  repeat' (with_reducible refine W.aggK (by with_unfolding_all rfl) ?_)
  refine W.new fun lf τ hlf L hf hnτ => ?_
  replace hb := hb.mono L
  replace hcs := hcs.mono L
  have hnx := L.next
  repeat' (with_reducible refine W.bind ?_)
  have key1 : W (loopW (S.skolemref1_Free.b0 (.ptr lf 0)) (.nils, 0) τ) fun r => Hle τ r.2 ∧ Acc .int τ.next r.2 (vars bs) r.1 := by
    refine W.loop bs.length (fun i y τ' => y.2 = (i : Int) ∧ Hle τ τ' ∧ Acc .int τ.next τ' (vars (bs.take i)) y.1) ⟨rfl, Hle.refl _, by simpa [vars] using Acc.nil _ _ _⟩ fun i y τ' hi hI => ?_
    obtain ⟨y, j⟩ := y
    obtain ⟨rfl, L', hA⟩ := hI
    dsimp only at hA
    have hf' := hf.mono L'
    have hb' := hb.mono L'
    unfold S.skolemref1_Free.b0
    dsimp only
    repeat' (with_reducible (first | refine W.asV ?_ | refine W.fldp ?_ | refine W.len (by assumption) ?_ | refine W.ldL (by assumption) (by with_unfolding_all rfl) ?_))
    (with_reducible refine W.cnd (fun hc => ?_) (fun hc => ?_) <;> (try simp only [q1, q2, q3, q4, q5, q6, q7, q8, q9, q10, q11, q12, q13, q14, q15, q16, q17, q18, q19, q20, q21, q22, q23, q24, q25, q26, q27, q28, q29, q30] at hc) <;> (try (exfalso; omega)))
    · repeat' (with_reducible (first | refine W.asV ?_ | refine W.fldp ?_ | refine W.ldL (by assumption) (by with_unfolding_all rfl) ?_))
      refine W.ixL hb L' (by omega) fun p us b hbi hp hr => ?_
      obtain ⟨x, rfl, hx⟩ := vB_rel hr
      have hp' := hp.mono L'
      repeat' (with_reducible (first | refine W.asV ?_ | refine W.fldld (by assumption) (by with_unfolding_all rfl) ?_))
      have hle : (vars (bs.take i)).length + b.2.length ≤ (vars bs).length := by
        have : vars (bs.take (i + 1)) = vars (bs.take i) ++ b.2 := by rw [List.take_add_one, hbi, vars_append]; simp [vars]
        have h5 : (vars bs).length = (vars (bs.take (i + 1))).length + (vars (bs.drop (i + 1))).length := by
          conv => lhs; rw [← List.take_append_drop (i + 1) bs]
          rw [vars_append, List.length_append]
        rw [h5, this, List.length_append]; omega
      refine W.app hA L' (hx.mono (hA.out_le L')) (by omega) (by omega) fun y' τ2 L2 hA2 _ => ?_
      repeat' (with_reducible refine W.next ?_)
      refine ⟨by omega, sk, L2, ?_⟩
      rw [List.take_add_one, hbi, vars_append]
      simpa [vars] using hA2
    · repeat' (with_reducible refine W.stop ?_)
      rw [List.take_of_length_le (by omega)] at hA
      exact ⟨L', hA⟩
  refine W.mono key1 fun r hr => ?_
  obtain ⟨sx, τ2⟩ := r
  obtain ⟨L2, hs⟩ := hr
  dsimp only at L2 hs ⊢
  have h0 : FI τ τ2 (vars bs) (fun v => ∃ c ∈ cs.take 0, ∃ l ∈ c, (l.natAbs : Int) = v) sx .nils ((vars bs).length + (cs.take 0).flatten.length) (vars bs) [] :=
    ⟨L2, hs, Acc.nil _ _ _, List.Pairwise.nil, fun v => by simp, fun v => by simp, by simp, by simp⟩
  repeat' (with_reducible refine W.bind ?_)
  refine W.loop (x := (sx, .nils, 0)) (σ := τ2) cs.length (fun i (y : AVal × AVal × Int) ρ => y.2.2 = (i : Int) ∧ ∃ seen outs, FI τ ρ (vars bs) (fun v => ∃ c ∈ cs.take i, ∃ l ∈ c, (l.natAbs : Int) = v) y.1 y.2.1 ((vars bs).length + (cs.take i).flatten.length) seen outs) ⟨rfl, _, _, h0⟩ fun i y ρ hi hI => ?_
  obtain ⟨sx, oy, j⟩ := y
  obtain ⟨rfl, seen, outs, h⟩ := hI
  dsimp only at h
  have hf' := hf.mono h.L
  have hc' := hcs.mono h.L
  unfold S.skolemref1_Free.b3
  dsimp only
  repeat' (with_reducible (first | refine W.asV ?_ | refine W.fldp ?_ | refine W.len (by assumption) ?_ | refine W.ldL (by assumption) (by with_unfolding_all rfl) ?_))
  (with_reducible refine W.cnd (fun hc => ?_) (fun hc => ?_) <;> (try simp only [q1, q2, q3, q4, q5, q6, q7, q8, q9, q10, q11, q12, q13, q14, q15, q16, q17, q18, q19, q20, q21, q22, q23, q24, q25, q26, q27, q28, q29, q30] at hc) <;> (try (exfalso; omega)))
  · repeat' (with_reducible refine W.bind ?_)
    obtain ⟨c, hci⟩ : ∃ c, cs[i]? = some c := ⟨_, List.getElem?_eq_getElem (by omega)⟩
    have hcl := flat_mem (List.mem_of_getElem? hci)
    have hct := flat_take_le cs i
    refine W.mono (refFree_b2 hf hcs hci (hn c (List.mem_of_getElem? hci)) (by omega) (by omega) h) fun r hr => ?_
    obtain ⟨seen', outs', h'⟩ := hr
    repeat' (with_reducible refine W.next ?_)
    refine ⟨by omega, sk, seen', outs', h'.of (fun v => ?_) ?_⟩
    · rw [List.take_add_one, hci]
      simp only [List.mem_append, Option.toList_some, List.mem_singleton]
      constructor
      · rintro (⟨c', hc', h⟩ | h)
        · exact ⟨c', .inl hc', h⟩
        · exact ⟨c, .inr rfl, h⟩
      · rintro ⟨c', hc' | rfl, h⟩
        · exact .inl ⟨c', hc', h⟩
        · exact .inr h
    · rw [take_succ_flat hci, List.length_append]; omega
  · repeat' (with_reducible (first | refine W.stop ?_ | refine W.ret ?_))
    rw [List.take_of_length_le (by omega)] at h
    have e : outs = free bs cs := rising_ext h.r (free_rising bs cs) fun v => by rw [h.mo, free_mem]
    subst e
    have hnx := L.next
    exact ⟨L.mono h.L, (h.o.mono (Hle.out _ _)).weak hnx⟩
end Go.Proofs.YtgneblbblihaoaaDoor.A

/- The game of a formula: the program's way. -/
namespace Go.Proofs.YtgneblbblihaoaaDoor.A
open Go

theorem clone_w {σ : Heap} {xs : List Int} {x : AVal} (h : SlV .int σ xs x) (hb : xs.length ≤ 1000000) : W (S.slices_Clone_int_int x σ) fun r => Acc .int σ.next r.2 xs r.1 ∧ Hle σ r.2 := by
  obtain ⟨y, τ, e, L, hA⟩ := clone_eq h hb
  exact ⟨_, e, hA, L⟩

theorem litsClone_w {σ : Heap} {cs : List (List Int)} {x : AVal} (hx : SlV vIs σ cs x) (hb : cs.length ≤ 1000000000) (hcl : ∀ c ∈ cs, c.length ≤ 1000000) : W (S.lits_Clone x σ) fun r => Hle σ r.2 ∧ Acc (vIsF σ.next) σ.next r.2 cs r.1 := by
  unfold S.lits_Clone
  repeat' (with_reducible refine W.len (by assumption) ?_)
  refine W.mk0 (vIsF σ.next) (by omega) (by omega) fun y τ L hA => ?_
  have hx' := hx.mono L
  repeat' (with_reducible (first | refine W.bind ?_ | refine W.len (by assumption) ?_))
  refine W.loop cs.length (fun i y τ => y.2 = (i : Int) ∧ Hle σ τ ∧ Acc (vIsF σ.next) σ.next τ (cs.take i) y.1) ⟨rfl, L, by simpa using hA⟩ fun i y τ hi hI => ?_
  obtain ⟨y, j⟩ := y
  obtain ⟨rfl, L, hA⟩ := hI
  unfold S.lits_Clone.b0
  dsimp only
  (with_reducible refine W.cnd (fun hc => ?_) (fun hc => ?_) <;> (try simp only [q1, q2, q3, q4, q5, q6, q7, q8, q9, q10, q11, q12, q13, q14, q15, q16, q17, q18, q19, q20, q21, q22, q23, q24, q25, q26, q27, q28, q29, q30] at hc) <;> (try (exfalso; omega)))
  · refine W.ixLS hx L (by omega) fun c w hci hw => ?_
    refine W.call (clone_w (hw.mono L) (hcl c (List.mem_of_getElem? hci))) fun r hr => ?_
    obtain ⟨z, τ2⟩ := r
    obtain ⟨hz, L2⟩ := hr
    dsimp only at hz L2 ⊢
    have hnx := L.next
    refine W.scalS hz.sl (W.push (hA.mono L2) (L.mono L2) (cs := [z]) (a := c) ⟨z, rfl, (hz.aside Vw.int_flat hA.below).sl, hz.from (by omega)⟩ (by simp; omega) (by simp; omega) fun y' τ3 L3 hA3 _ => ?_)
    repeat' (with_reducible refine W.next ?_)
    exact ⟨by omega, sk, L3, by rw [List.take_add_one, hci]; exact hA3⟩
  · repeat' (with_reducible (first | refine W.stop ?_ | refine W.ret ?_))
    rw [List.take_of_length_le (by omega)] at hA
    exact ⟨L, hA⟩

/-! ### Games -/
abbrev Gm := Bool × List Int × List Int × List (List Int)
def zeroG : Gm := (false, [], [], [])
def gameOf (l : List (Bool × List Int)) (cs : List (List Int)) : Gm := match l with
  | [] => (true, [], [], cs)
  | [a] => (a.1, a.2, [], cs)
  | [a, b] => (a.1, a.2, b.2, cs)
  | _ => zeroG
def allB (bs : List (Bool × List Int)) (cs : List (List Int)) : List (Bool × List Int) := merge ((true, free bs cs) :: bs)
def normG (bs : List (Bool × List Int)) (vars : Int) (cs : List (List Int)) : Gm := match chkF bs vars cs with
  | some _ => zeroG
  | none => gameOf (allB bs cs) cs
def normF (bs : List (Bool × List Int)) (vars : Int) (cs : List (List Int)) : Flt := match chkF bs vars cs with
  | some f => some f
  | none => if (allB bs cs).length ≤ 2 then none else some (.blocks, none)
/-- A game's cells. -/
def GmV (σ : Heap) (g : Gm) (us : List AVal) : Prop := ∃ o i c, us = [.bool g.1, o, i, c] ∧ SlV .int σ g.2.1 o ∧ SlV .int σ g.2.2.1 i ∧ SlV vIs σ g.2.2.2 c
theorem GmV.mono {σ τ : Heap} {g : Gm} {us : List AVal} (h : GmV σ g us) (L : Hle σ τ) : GmV τ g us := by
  obtain ⟨o, i, c, e, h1, h2, h3⟩ := h
  exact ⟨o, i, c, e, h1.mono L, h2.mono L, h3.mono L⟩
theorem zeroG_v (σ : Heap) : GmV σ zeroG [.bool false, .nils, .nils, .nils] := ⟨_, _, _, rfl, SlV.nil _ _, SlV.nil _ _, SlV.nil _ _⟩

theorem Acc.one {α : Type} {v : Vw α} {σ τ : Heap} {a : α} {us : List AVal} {l n0 : Nat} (hl : l = σ.next) (hg : τ.get l = some (.cells .rw v.sz us)) (hn : τ.next = σ.next + 1) (L : Hle σ τ) (h : v.rel σ a us) (h0 : n0 ≤ σ.next) : Acc v n0 τ [a] (.sl l 0 1 none) :=
  .inr ⟨l, us, rfl, by omega, by omega, hg, by rw [v.len h]; simp, fun i b hi => by
    match i, hi with
    | 0, hi =>
      cases hi
      have : (us.drop (0 * v.sz)).take v.sz = us := by rw [Nat.zero_mul, List.drop_zero]; exact List.take_of_length_le (by rw [v.len h]; exact Nat.le_refl _)
      rw [this]
      exact v.mono (L.kill (by omega)) h
    | k + 1, hi => simp at hi⟩

theorem IsE.kill {σ : Heap} {v : AVal} {e : Er} {k : Nat} {cs : List AVal} (h : IsE σ v e) (hk : Loc σ k cs) : IsE (σ.kill k) v e := by
  obtain ⟨h1, h2, j, rfl, h4, h5⟩ := h
  obtain ⟨sz, e1⟩ := hk.get
  have n1 : e.g ≠ k := fun e => by rw [e, e1] at h2; cases h2
  have n2 : j ≠ k := fun e => by rw [e, e1] at h5; cases h5
  exact ⟨h1, by rw [hkill_get, if_neg n1]; exact h2, j, rfl, h4, by rw [hkill_get, if_neg n2]; exact h5⟩
theorem IsF.kill {σ : Heap} {v : AVal} {f : Flt} {k : Nat} {b : Bool} {cs : List AVal} (h : IsF σ v f) (hk : Loc σ k (.bool b :: cs)) : IsF (σ.kill k) v f := by
  match f, h with
  | none, h => exact h
  | some (e, none), h => exact IsE.kill h hk
  | some (e, some pos), h =>
    obtain ⟨l, u, h1, h2, h3⟩ := h
    refine ⟨l, u, h1, h2.kill fun o ho => ?_, h3.kill hk⟩
    cases ho
    have c1 := h2.cell (k := 0) rfl
    have c2 := hk.at.cell (k := 0) rfl
    rw [c1] at c2
    cases c2

theorem norm_w {σ : Heap} {vars : Int} {bs : List (Bool × List Int)} {cs : List (List Int)} {xb xc : AVal} (hg : GlS [.limit, .range, .blocks] σ) (hb : SlV vB σ bs xb) (hcs : SlV vIs σ cs xc) (h1 : cs.flatten.length ≤ 200000) (h2 : cs.length ≤ 200000) (h3 : bs.length ≤ 200000)
    (h4 : total bs ≤ 200000) (hn : ∀ c ∈ cs, Nears c) : W (S.prefix_Norm (.agg [xb, .int .i64 vars, xc]) σ) fun r => Hle σ r.2 ∧ IsF r.2 r.1.2 (normF bs vars cs) ∧ ∃ us, r.1.1 = .agg us ∧ GmV r.2 (normG bs vars cs) us := by
  have hbt : ∀ b ∈ bs, b.2.length ≤ 200000 := fun b hb => Nat.le_trans (total_mem hb) h4
  unfold S.prefix_Norm
  repeat' (with_reducible refine W.aggK (by with_unfolding_all rfl) ?_)
  refine W.new fun l2 τ hl2 L hf hnτ => ?_
  refine W.new fun l4 τ2 hl4 L2 h4' hnτ2 => ?_
  replace L := L.mono L2
  replace hf := hf.mono L2
  have hnx := L2.next
  repeat' (with_reducible (first | refine W.bind ?_ | refine W.ldGL (by assumption) (Nat.le_of_ble_eq_true (by with_unfolding_all rfl)) ?_))
  refine W.mono (qCheck_w (vars := vars) ((hg.sub (by decide)).mono L) (hb.mono L) (hcs.mono L) (by omega) (by omega) (by omega) (fun b hb => by have := hbt b hb; omega)) fun r hr => ?_
  obtain ⟨r, τ3⟩ := r
  obtain ⟨hr, L3⟩ := hr
  dsimp only at hr L3 ⊢
  replace L := L.mono L3
  replace hf := hf.mono L3
  replace h4' := h4'.mono L3
  have hnx := L3.next
  refine W.fnil hr ?_
  unfold normF normG
  cases hq : chkF bs vars cs with
  | some f =>
    rw [hq] at hr
    repeat' (with_reducible refine W.condT ?_ ?_; focus (first | (simp only [q1, q2, q3, q4, q5, q6, q7, q8, q9, q10, q11, q12, q13, q14, q15, q16, q17, q18, q19, q20, q21, q22, q23, q24, q25, q26, q27, q28, q29, q30]; done) | (simp only [q1, q2, q3, q4, q5, q6, q7, q8, q9, q10, q11, q12, q13, q14, q15, q16, q17, q18, q19, q20, q21, q22, q23, q24, q25, q26, q27, q28, q29, q30]; omega) | assumption))
    have hk := hr.kill h4'
    refine W.st0 h4' (by rfl) fun τ4 L4 hnτ4 h4' => ?_
    repeat' (with_reducible (first | refine W.ret ?_ | refine W.ldGL (by assumption) (Nat.le_of_ble_eq_true (by with_unfolding_all rfl)) ?_))
    exact ⟨L.ofk (by omega) L4, hk.mono L4, _, rfl, zeroG_v _⟩
  | none =>
    repeat' (first | (with_reducible (first | refine W.bind ?_ | refine W.ldGL (by assumption) (Nat.le_of_ble_eq_true (by with_unfolding_all rfl)) ?_)) | (with_reducible refine W.condF ?_ ?_; focus (first | (simp only [q1, q2, q3, q4, q5, q6, q7, q8, q9, q10, q11, q12, q13, q14, q15, q16, q17, q18, q19, q20, q21, q22, q23, q24, q25, q26, q27, q28, q29, q30]; done) | (simp only [q1, q2, q3, q4, q5, q6, q7, q8, q9, q10, q11, q12, q13, q14, q15, q16, q17, q18, q19, q20, q21, q22, q23, q24, q25, q26, q27, q28, q29, q30]; omega) | assumption)))
    refine W.mono (free_w (n := vars) (hb.mono L) (hcs.mono L) (by omega) (by omega) (by omega) (fun b hb => by have := hbt b hb; omega) hn) fun r hr => ?_
    obtain ⟨z, τ4⟩ := r
    obtain ⟨L4, hz⟩ := hr
    dsimp only at hz L4 ⊢
    have hf3 := hf
    replace L := L.mono L4
    replace hf := hf.mono L4
    replace h4' := h4'.mono L4
    have hnx := L4.next
    refine W.scalS hz.sl (W.newg fun l13 τ5 hl13 L5 _ hg13 hn5 => ?_)
    have hfl : (free bs cs).length ≤ 200000 := by
      have := nodup_len (xs := free bs cs) (ys := cs.flatten.map fun l => (l.natAbs : Int)) ((free_rising bs cs).imp fun {a b} h => by omega) fun v hv => by
        obtain ⟨⟨c, hc, l, hl, e⟩, _⟩ := (free_mem bs cs v).1 hv
        exact List.mem_map.2 ⟨l, List.mem_flatten.2 ⟨c, hc, hl⟩, e⟩
      rw [List.length_map] at this; omega
    repeat' (with_reducible (first | refine W.asV ?_ | refine W.chk rfl ?_ | refine W.ldL (by assumption) (by with_unfolding_all rfl) ?_))
    have hA1 : Acc vB τ4.next τ5 [(true, free bs cs)] (.sl l13 0 1 none) := Acc.one hl13 hg13 hn5 L5 (vB_mk (b := (true, free bs cs)) hz.sl) (Nat.le_refl _)
    refine W.app (ys := bs) hA1 L5 ((hb.mono L).mono (hA1.out_le L5)) (by simp; omega) (by simp; omega) fun w τ6 L6 hA6 _ => ?_
    replace L := L.mono L6
    replace hf := hf.mono L6
    replace h4' := h4'.mono L6
    have hnx := L6.next
    repeat' (with_reducible refine W.bind ?_)
    refine W.mono (merge_w (bs := (true, free bs cs) :: bs) hA6.sl (by simp; omega) (by simp [total] at h4 ⊢; omega)) fun r hr => ?_
    obtain ⟨m, τ7⟩ := r
    obtain ⟨L7, hm⟩ := hr
    dsimp only at hm L7 ⊢
    replace L := L.mono L7
    replace hf := hf.mono L7
    replace h4' := h4'.mono L7
    have hnx := L7.next
    repeat' (with_reducible (first | refine W.bind ?_ | refine W.asV ?_ | refine W.ldL (by assumption) (by with_unfolding_all rfl) ?_))
    refine W.mono (litsClone_w (hcs.mono L) (by omega) (fun c hc => by have := flat_mem hc; omega)) fun r hr => ?_
    obtain ⟨y, τ8⟩ := r
    obtain ⟨L8, hy⟩ := hr
    dsimp only at hy L8 ⊢
    replace L := L.mono L8
    replace hf := hf.mono L8
    replace h4' := h4'.mono L8
    have hnx := L8.next
    replace hm := hm.mono L8
    have L0 := L
    refine W.scalS hy.sl ?_
    refine W.new fun l22 τ9 hl22 L9 h22 hnτ9 => ?_
    have hml := hm.sl.mono L9
    replace L := L.mono L9
    replace h4' := h4'.mono L9
    have hnx := L9.next
    refine W.st h22 (Nat.le_of_ble_eq_true (by rfl)) fun τ10 L10 hnτ10 h22 => ?_
    have L90 : Hle τ8 τ10 := L9.ofk (by omega) L10
    have hml10 := hm.sl.mono L90
    replace h4' := (h4'.kill (by omega)).mono L10
    repeat' (with_reducible refine W.len (by assumption) ?_)
    replace h22 : Loc τ10 l22 [.bool true, .nils, .nils, y] := h22
    have hyk : SlV vIs (τ8.kill l4) cs y := (hy.sl.ovr (vIsF_over _) (hy.from (Nat.le_refl _)) (by omega)).ofIsF
    have hlk : ∀ (i : Nat) (b : Bool × List Int), (merge ((true, free bs cs) :: bs))[i]? = some b → ∃ p x, (∀ {υ : Heap}, Hle τ8 υ → ∀ {Rt : Type} (K : AVal → Option Rt), ixA υ m 2 (i : Int) K = K p) ∧ At τ8 p [.bool b.1, x] ∧ SlV .int (τ8.kill l4) b.2 x ∧ SlV .int τ8 b.2 x := fun i b hi => by
      obtain ⟨p, us, g1, g2, g3⟩ := hm.sl.ix hi
      obtain ⟨x, rfl, g4, g5⟩ := vBF_rel g2
      exact ⟨p, x, g3, g1, g4.ovr (Vw.int_flat.over _) g5 (by omega), g4⟩
    unfold allB
    clear hml
    generalize merge ((true, free bs cs) :: bs) = M at *
    match M, hml10, hlk with
    | [], hml, hlk =>
      refine W.condT (by rfl) ?_
      repeat' (with_reducible (first | refine W.aggK (by with_unfolding_all rfl) ?_ | refine W.ldGL (by assumption) (Nat.le_of_ble_eq_true (by with_unfolding_all rfl)) ?_))
      refine W.st0 h4' (by rfl) fun τ11 L11 hnτ11 h4' => ?_
      repeat' (with_reducible (first | refine W.ret ?_ | refine W.ldGL (by assumption) (Nat.le_of_ble_eq_true (by with_unfolding_all rfl)) ?_))
      have Lf := (L90.killed l4).mono L11
      exact ⟨L0.ofk (by omega) Lf, rfl, _, rfl, _, _, _, rfl, SlV.nil _ _, SlV.nil _ _, hyk.mono Lf⟩
    | [a], hml, hlk =>
      obtain ⟨p, x, e1, g1, g2, g3⟩ := hlk 0 a rfl
      obtain ⟨lp, op, _, _, _, rfl, hlp, _⟩ := id g1
      have g10 := g1.mono L90
      refine W.condF (by rfl) (W.condT (by rfl) ?_)
      refine W.to (e1 L90 _) ?_
      repeat' (with_reducible (first | refine W.asB ?_ | refine W.fldp ?_ | refine W.ldp (by assumption) (by with_unfolding_all rfl) ?_))
      refine W.to (e1 L90 _) ?_
      repeat' (with_reducible (first | refine W.asV ?_ | refine W.fldp ?_ | refine W.ldp (by assumption) (by with_unfolding_all rfl) ?_))
      refine W.st h22 (Nat.le_of_ble_eq_true (by rfl)) fun τ11 L11 hnτ11 h22 => ?_
      replace h22 : Loc τ11 l22 [.bool a.1, .nils, .nils, y] := h22
      replace h4' := (h4'.kill (by omega)).mono L11
      have L91 : Hle τ8 τ11 := L90.ofk (by omega) L11
      have g11 := g1.mono L91
      repeat' (with_reducible (first | refine W.asV ?_ | refine W.chk rfl ?_ | refine W.ldp (by assumption) (by with_unfolding_all rfl) ?_))
      refine W.to (e1 L91 _) ?_
      repeat' (with_reducible (first | refine W.chk rfl ?_ | refine W.scalS (by assumption) ?_))
      refine W.st h22 (Nat.le_of_ble_eq_true (by rfl)) fun τ12 L12 hnτ12 h22 => ?_
      replace h22 : Loc τ12 l22 [.bool a.1, x, .nils, y] := h22
      replace h4' := (h4'.kill (by omega)).mono L12
      have L92 : Hle τ8 τ12 := L91.ofk (by omega) L12
      repeat' (with_reducible (first | refine W.aggK (by with_unfolding_all rfl) ?_ | refine W.ldGL (by assumption) (Nat.le_of_ble_eq_true (by with_unfolding_all rfl)) ?_))
      refine W.st0 h4' (by rfl) fun τ13 L13 hnτ13 h4' => ?_
      repeat' (with_reducible (first | refine W.ret ?_ | refine W.ldGL (by assumption) (Nat.le_of_ble_eq_true (by with_unfolding_all rfl)) ?_))
      have Lf := (L92.killed l4).mono L13
      exact ⟨L0.ofk (by omega) Lf, rfl, _, rfl, _, _, _, rfl, g2.mono Lf, SlV.nil _ _, hyk.mono Lf⟩
    | [a, b], hml, hlk =>
      obtain ⟨p, x, e1, g1, g2, g3⟩ := hlk 0 a rfl
      obtain ⟨lp, op, _, _, _, rfl, hlp, _⟩ := id g1
      obtain ⟨q, z2, e2, k1, k2, k3⟩ := hlk 1 b rfl
      obtain ⟨lq, oq, _, _, _, rfl, hlq, _⟩ := id k1
      have g10 := g1.mono L90
      have k10 := k1.mono L90
      refine W.condF (by rfl) (W.condF (by rfl) (W.condT (by rfl) ?_))
      refine W.to (e1 L90 _) ?_
      repeat' (with_reducible (first | refine W.asB ?_ | refine W.fldp ?_ | refine W.ldp (by assumption) (by with_unfolding_all rfl) ?_))
      refine W.to (e1 L90 _) ?_
      repeat' (with_reducible (first | refine W.asV ?_ | refine W.fldp ?_ | refine W.ldp (by assumption) (by with_unfolding_all rfl) ?_))
      refine W.to (e2 L90 _) ?_
      repeat' (with_reducible (first | refine W.asV ?_ | refine W.fldp ?_ | refine W.ldp (by assumption) (by with_unfolding_all rfl) ?_))
      refine W.st h22 (Nat.le_of_ble_eq_true (by rfl)) fun τ11 L11 hnτ11 h22 => ?_
      replace h22 : Loc τ11 l22 [.bool a.1, .nils, .nils, y] := h22
      replace h4' := (h4'.kill (by omega)).mono L11
      have L91 : Hle τ8 τ11 := L90.ofk (by omega) L11
      have g11 := g1.mono L91
      have k11 := k1.mono L91
      repeat' (with_reducible (first | refine W.asV ?_ | refine W.chk rfl ?_ | refine W.ldp (by assumption) (by with_unfolding_all rfl) ?_))
      refine W.to (e2 L91 _) ?_
      repeat' (with_reducible (first | refine W.asV ?_ | refine W.chk rfl ?_ | refine W.ldp (by assumption) (by with_unfolding_all rfl) ?_))
      refine W.to (e1 L91 _) ?_
      repeat' (with_reducible (first | refine W.chk rfl ?_ | refine W.scalS (by assumption) ?_))
      refine W.st h22 (Nat.le_of_ble_eq_true (by rfl)) fun τ12 L12 hnτ12 h22 => ?_
      replace h22 : Loc τ12 l22 [.bool a.1, x, .nils, y] := h22
      replace h4' := (h4'.kill (by omega)).mono L12
      have L92 : Hle τ8 τ12 := L91.ofk (by omega) L12
      have k12 := k1.mono L92
      repeat' (with_reducible (first | refine W.asV ?_ | refine W.chk rfl ?_ | refine W.ldp (by assumption) (by with_unfolding_all rfl) ?_))
      refine W.to (e2 L92 _) ?_
      repeat' (with_reducible (first | refine W.chk rfl ?_ | refine W.scalS (by assumption) ?_))
      refine W.st h22 (Nat.le_of_ble_eq_true (by rfl)) fun τ13 L13 hnτ13 h22 => ?_
      replace h22 : Loc τ13 l22 [.bool a.1, x, z2, y] := h22
      replace h4' := (h4'.kill (by omega)).mono L13
      have L93 : Hle τ8 τ13 := L92.ofk (by omega) L13
      repeat' (with_reducible (first | refine W.aggK (by with_unfolding_all rfl) ?_ | refine W.ldGL (by assumption) (Nat.le_of_ble_eq_true (by with_unfolding_all rfl)) ?_))
      refine W.st0 h4' (by rfl) fun τ14 L14 hnτ14 h4' => ?_
      repeat' (with_reducible (first | refine W.ret ?_ | refine W.ldGL (by assumption) (Nat.le_of_ble_eq_true (by with_unfolding_all rfl)) ?_))
      have Lf := (L93.killed l4).mono L14
      exact ⟨L0.ofk (by omega) Lf, rfl, _, rfl, _, _, _, rfl, g2.mono Lf, k2.mono Lf, hyk.mono Lf⟩
    | a :: b :: c :: M, hml, hlk =>
      have hl1 : (((a :: b :: c :: M).length : Int) == 0) = false := by simp; omega
      have hl2 : (((a :: b :: c :: M).length : Int) == 1) = false := by simp; omega
      have hl3 : (((a :: b :: c :: M).length : Int) == 2) = false := by simp; omega
      refine W.condF hl1 (W.condF hl2 (W.condF hl3 ?_))
      refine W.glob (hg.mono (L0.mono L90)) .blocks fun v hv => ?_
      have hk := hv.kill h4'
      have L10' := L10
      refine W.st0 h4' (by rfl) fun τ11 L11 hnτ11 h4' => ?_
      have hv11 := hk.mono L11
      refine W.ld0 hv11.at rfl ?_
      repeat' (with_reducible (first | refine W.ret ?_ | refine W.asV ?_ | refine W.chk rfl ?_ | refine W.ldGL (by assumption) (Nat.le_of_ble_eq_true (by with_unfolding_all rfl)) ?_))
      have Lf := (L90.killed l4).mono L11
      refine ⟨L0.ofk (by omega) Lf, ?_, _, rfl, zeroG_v _⟩
      rw [if_neg (by simp)]
      exact hv11
end Go.Proofs.YtgneblbblihaoaaDoor.A

/- Clauses and formulas out of numbers. -/
namespace Go.Proofs.YtgneblbblihaoaaDoor.A
open Go

theorem number_eq {σ : Heap} {n b : Int} (hb : 0 < b) (hb2 : b ≤ 4611686018427387904) : S.skolemworld_Number n b σ = some (n % b) := by
  unfold S.skolemworld_Number
  rw [if_neg (by omega)]
  have h0 := Int.emod_nonneg n (show b ≠ 0 by omega)
  have h1 := Int.emod_lt_of_pos n hb
  rcases (show n < 0 ∨ 0 ≤ n by omega) with hn | hn
  · have e : Int.tmod n b = if n % b = 0 then 0 else n % b - b := by
      rw [Int.tmod_eq_emod]
      split
      · rename_i h
        rcases h with h | h
        · omega
        · have := Int.emod_eq_zero_of_dvd h; rw [if_pos this]; omega
      · rename_i h
        have : n % b ≠ 0 := fun e => h (.inr (Int.dvd_of_emod_eq_zero e))
        rw [if_neg this]; omega
    rw [e]
    by_cases hz : n % b = 0
    · rw [if_pos hz, hz]; rfl
    · rw [if_neg hz]
      have : decide (n % b - b < 0) = true := by simp; omega
      rw [this]
      have w : IntKind.i64.wrap (n % b - b + b) = n % b := by rw [wrapS] <;> omega
      rw [w]; rfl
  · have e : Int.tmod n b = n % b := Int.tmod_eq_emod_of_nonneg hn
    rw [e]
    have : decide (n % b < 0) = false := by simp; omega
    rw [this]; rfl

def lit (n vars : Int) : Int := if n % (2 * vars) < vars then n % (2 * vars) + 1 else vars - n % (2 * vars) - 1
theorem lit_ok {n vars : Int} (h : 0 < vars) : lit n vars ≠ 0 ∧ -vars ≤ lit n vars ∧ lit n vars ≤ vars := by
  unfold lit
  have h0 := Int.emod_nonneg n (show 2 * vars ≠ 0 by omega)
  have h1 := Int.emod_lt_of_pos n (show 0 < 2 * vars by omega)
  split <;> omega
theorem lit_eq {σ : Heap} {n vars : Int} (h : 0 < vars) (h2 : vars ≤ 1000000) : S.skolemmake_Lit n vars σ = some (lit n vars) := by
  unfold S.skolemmake_Lit lit
  have w : IntKind.i64.wrap (2 * vars) = 2 * vars := by rw [wrapS] <;> omega
  have h0 := Int.emod_nonneg n (show 2 * vars ≠ 0 by omega)
  have h1 := Int.emod_lt_of_pos n (show 0 < 2 * vars by omega)
  rw [w, number_eq (by omega) (by omega)]
  simp only [Option.bind_some]
  by_cases hl : n % (2 * vars) < vars
  · simp only [hl, decide_true, cond_true, if_true]
    rw [wrapS] <;> omega
  · simp only [hl, decide_false, cond_false, if_false]
    have w1 : IntKind.i64.wrap (vars - n % (2 * vars)) = vars - n % (2 * vars) := by rw [wrapS] <;> omega
    rw [w1, wrapS] <;> omega

/-- Clauses out of numbers. -/
def stepC (vars : Int) (s : List (List Int) × List Int) (n : Int) : List (List Int) × List Int :=
  let t := if (n % 7 = 0 ∧ s.2.length > 0) ∨ s.2.length ≥ 5 then (s.1 ++ [s.2], []) else s
  (t.1, t.2 ++ [lit (n % 1099511627776 / 7) vars])
def endC (s : List (List Int) × List Int) : List (List Int) := if s.2.length > 0 then s.1 ++ [s.2] else s.1
def clausesOf (l : List Int) (vars : Int) : List (List Int) := if vars < 1 then [] else endC (l.foldl (stepC vars) ([], []))

theorem len_flat : ∀ {cs : List (List Int)}, (∀ c ∈ cs, c ≠ []) → cs.length ≤ cs.flatten.length
  | [], _ => by simp
  | c :: cs, h => by
    have h1 := len_flat (cs := cs) fun d hd => h d (List.mem_cons_of_mem _ hd)
    have h2 : c.length ≠ 0 := fun e => h c (by simp) (List.eq_nil_of_length_eq_zero e)
    simp only [List.flatten_cons, List.length_append, List.length_cons]; omega
structure CI (vars : Int) (k : Nat) (s : List (List Int) × List Int) : Prop where
  ok : ∀ c ∈ s.1, c ≠ [] ∧ c.length ≤ 5 ∧ ∀ l ∈ c, l ≠ 0 ∧ -vars ≤ l ∧ l ≤ vars
  ok2 : s.2.length ≤ 5 ∧ ∀ l ∈ s.2, l ≠ 0 ∧ -vars ≤ l ∧ l ≤ vars
  len : s.1.flatten.length + s.2.length = k
theorem CI.len2 {vars : Int} {k : Nat} {s : List (List Int) × List Int} (h : CI vars k s) : s.1.length + s.2.length ≤ k := by
  have := len_flat fun c hc => (h.ok c hc).1
  have := h.len; omega
theorem stepC_ok {vars : Int} (hv : 0 < vars) {k : Nat} {s : List (List Int) × List Int} (h : CI vars k s) (n : Int) : CI vars (k + 1) (stepC vars s n) := by
  obtain ⟨h1, h2, h3⟩ := h
  unfold stepC
  have hl := lit_ok (n := n % 1099511627776 / 7) hv
  by_cases hc : (n % 7 = 0 ∧ s.2.length > 0) ∨ s.2.length ≥ 5
  · rw [if_pos hc]
    have hp : 0 < s.2.length := by rcases hc with ⟨_, h⟩ | h <;> omega
    refine ⟨fun c hc => ?_, ⟨by simp, fun l hl' => ?_⟩, ?_⟩
    · rcases List.mem_append.1 hc with hc | hc
      · exact h1 c hc
      · simp at hc; subst hc
        exact ⟨fun e => by rw [e] at hp; simp at hp, h2⟩
    · simp at hl'; subst hl'; exact hl
    · simp only [List.flatten_append, List.length_append, List.flatten_cons, List.flatten_nil, List.append_nil, List.nil_append, List.length_singleton, List.length_nil]; omega
  · rw [if_neg hc]
    refine ⟨h1, ⟨?_, fun l hl' => ?_⟩, ?_⟩
    · simp only [List.length_append, List.length_singleton]; omega
    · rcases List.mem_append.1 hl' with hl' | hl'
      · exact h2.2 l hl'
      · simp at hl'; subst hl'; exact hl
    · simp only [List.flatten_append, List.length_append, List.flatten_cons, List.flatten_nil, List.append_nil, List.nil_append, List.length_singleton, List.length_nil]; omega
theorem foldC_ok {vars : Int} (hv : 0 < vars) : ∀ (l : List Int) (k : Nat) (s : List (List Int) × List Int), CI vars k s → CI vars (k + l.length) (l.foldl (stepC vars) s)
  | [], k, s, h => h
  | n :: l, k, s, h => by
    have := foldC_ok hv l (k + 1) _ (stepC_ok hv h n)
    rw [List.length_cons, show k + (l.length + 1) = k + 1 + l.length by omega]
    exact this
theorem CI0 (vars : Int) : CI vars 0 ([], []) := ⟨fun c h => (by cases h), ⟨by simp, fun l h => (by cases h)⟩, rfl⟩
theorem clausesOf_ok (l : List Int) (vars : Int) : (∀ c ∈ clausesOf l vars, c ≠ [] ∧ c.length ≤ 5 ∧ ∀ x ∈ c, x ≠ 0 ∧ -vars ≤ x ∧ x ≤ vars) ∧ (clausesOf l vars).flatten.length ≤ l.length ∧ (clausesOf l vars).length ≤ l.length := by
  unfold clausesOf
  split
  · simp
  · have h0 := foldC_ok (show 0 < vars by omega) l 0 _ (CI0 vars)
    have h4 := h0.len2
    obtain ⟨h1, h2, h3⟩ := h0
    generalize l.foldl (stepC vars) ([], []) = s at *
    unfold endC
    split
    · rename_i hp
      refine ⟨fun c hc => ?_, by simp only [List.flatten_append, List.length_append, List.flatten_cons, List.flatten_nil, List.append_nil, List.nil_append, List.length_singleton, List.length_nil]; omega, by simp only [List.flatten_append, List.length_append, List.flatten_cons, List.flatten_nil, List.append_nil, List.nil_append, List.length_singleton, List.length_nil]; omega⟩
      rcases List.mem_append.1 hc with hc | hc
      · exact h1 c hc
      · simp at hc; subst hc
        exact ⟨fun e => by rw [e] at hp; simp at hp, h2⟩
    · exact ⟨h1, by omega, by omega⟩

theorem Acc.apart {α : Type} {v : Vw α} {n m : Nat} {τ : Heap} {os : List α} {cl : List Int} {o c : AVal} (hO : Acc v n (out τ c) os o) (hC : Acc .int m τ cl c) : SlV .int (out τ o) cl c := by
  refine hC.sl.flat Vw.int_flat (by rw [out_next]; exact Nat.le_refl _) fun l off len k e => ?_
  rcases hO with ⟨rfl, _⟩ | ⟨lo, cs, rfl, h1, h2, h3, _⟩
  · rfl
  · subst e
    have h3 : (τ.kill l).get lo = _ := h3
    rw [hkill_get] at h3
    split at h3
    · cases h3
    · rename_i h
      show (τ.kill lo).get l = _
      rw [hkill_get, if_neg (fun e => h e.symm)]

theorem clauses_w {σ : Heap} {l : List Int} {vars : Int} {x : AVal} (hx : SlV .int σ l x) (hb : l.length ≤ 1000000) (hv : vars ≤ 1000000) :
    W (S.skolemmake_Clauses x vars σ) fun r => Hle σ r.2 ∧ Acc (vIsF σ.next) σ.next r.2 (clausesOf l vars) r.1 := by
  unfold S.skolemmake_Clauses clausesOf
  by_cases hv1 : vars < 1
  · repeat' (first | (with_reducible refine W.ret ?_) | (with_reducible refine W.condT ?_ ?_; focus (first | (simp only [q1, q2, q3, q4, q5, q6, q7, q8, q9, q10, q11, q12, q13, q14, q15, q16, q17, q18, q19, q20, q21, q22, q23, q24, q25, q26, q27, q28, q29, q30]; done) | (simp only [q1, q2, q3, q4, q5, q6, q7, q8, q9, q10, q11, q12, q13, q14, q15, q16, q17, q18, q19, q20, q21, q22, q23, q24, q25, q26, q27, q28, q29, q30]; omega) | assumption)))
    rw [if_pos hv1]
    exact ⟨Hle.refl _, Acc.nil _ _ _⟩
  repeat' (first | (with_reducible refine W.bind ?_) | (with_reducible refine W.condF ?_ ?_; focus (first | (simp only [q1, q2, q3, q4, q5, q6, q7, q8, q9, q10, q11, q12, q13, q14, q15, q16, q17, q18, q19, q20, q21, q22, q23, q24, q25, q26, q27, q28, q29, q30]; done) | (simp only [q1, q2, q3, q4, q5, q6, q7, q8, q9, q10, q11, q12, q13, q14, q15, q16, q17, q18, q19, q20, q21, q22, q23, q24, q25, q26, q27, q28, q29, q30]; omega) | assumption)))
  rw [if_neg hv1]
  refine W.loop l.length (fun i (y : AVal × AVal × Int) τ => y.2.2 = (i : Int) ∧ Hle σ τ ∧ Acc (vIsF σ.next) σ.next (out τ y.2.1) ((l.take i).foldl (stepC vars) ([], [])).1 y.1 ∧ Acc .int σ.next τ ((l.take i).foldl (stepC vars) ([], [])).2 y.2.1)
    ⟨rfl, Hle.refl _, Acc.nil _ _ _, Acc.nil _ _ _⟩ fun i y τ hi hI => ?_
  obtain ⟨o, c, j⟩ := y
  obtain ⟨rfl, L, hO, hC⟩ := hI
  dsimp only at hO hC
  have hci := foldC_ok (show 0 < vars by omega) (l.take i) 0 _ (CI0 vars)
  have hti : (l.take i).length ≤ i := by simp; omega
  unfold S.skolemmake_Clauses.b0
  dsimp only
  have hx' := hx.mono L
  repeat' (with_reducible refine W.len (by assumption) ?_)
  (with_reducible refine W.cnd (fun hq => ?_) (fun hq => ?_) <;> (try simp only [q1, q2, q3, q4, q5, q6, q7, q8, q9, q10, q11, q12, q13, q14, q15, q16, q17, q18, q19, q20, q21, q22, q23, q24, q25, q26, q27, q28, q29, q30] at hq) <;> (try (exfalso; omega)))
  · obtain ⟨n, hn⟩ : ∃ n, l[i]? = some n := ⟨_, List.getElem?_eq_getElem (by omega)⟩
    have htk : l.take (i + 1) = l.take i ++ [n] := by rw [List.take_add_one, hn]; rfl
    have hstep : (l.take (i + 1)).foldl (stepC vars) ([], []) = stepC vars ((l.take i).foldl (stepC vars) ([], [])) n := by rw [htk, List.foldl_append]; rfl
    rw [hstep]
    generalize (l.take i).foldl (stepC vars) ([], []) = s at *
    have hCl := hC.sl
    have c4 := hci.len2
    obtain ⟨c1, c2, c3⟩ := hci
    repeat' (with_reducible (first | refine W.bind ?_ | refine W.ixIc (by assumption) (by assumption) ?_))
    refine W.to (number_eq (by omega) (by omega)) ?_
    repeat' (with_reducible refine W.ret ?_)
    have hcut : W (cond (n % 7 == 0) (lenV c fun n9 => cond (decide (n9 > 0)) (some true) (lenV c fun n10 => some (decide (n10 ≥ 5)))) (lenV c fun n11 => some (decide (n11 ≥ 5)))) fun r => r = decide ((n % 7 = 0 ∧ s.2.length > 0) ∨ s.2.length ≥ 5) := by
      repeat' (first | (with_reducible (first | refine W.ret ?_ | refine W.len (by assumption) ?_)) | (with_reducible refine W.cnd (fun hc => ?_) (fun hc => ?_) <;> (try simp only [q1, q2, q3, q4, q5, q6, q7, q8, q9, q10, q11, q12, q13, q14, q15, q16, q17, q18, q19, q20, q21, q22, q23, q24, q25, q26, q27, q28, q29, q30] at hc) <;> (try (exfalso; omega))))
      all_goals first | exact (decide_eq_true (by omega)).symm | exact (decide_eq_false (by omega)).symm | exact decide_eq_decide.2 (by omega)
    refine W.mono hcut fun r hr => ?_
    subst hr
    -- the cut
    have hmid : W (cond (decide ((n % 7 = 0 ∧ s.2.length > 0) ∨ s.2.length ≥ 5)) (scal c (newK τ 1 [c] fun l13 σ14 => appS σ14 1 24 o (.sl l13 0 1 none) fun v15 σ16 => some ((v15, AVal.nils), σ16))) (some ((o, c), τ))) fun r =>
        Hle σ r.2 ∧ ∃ t : List (List Int) × List Int, t = (if (n % 7 = 0 ∧ s.2.length > 0) ∨ s.2.length ≥ 5 then (s.1 ++ [s.2], []) else s) ∧ t.2.length ≤ 5 ∧ Acc (vIsF σ.next) σ.next (out r.2 r.1.2) t.1 r.1.1 ∧ Acc .int σ.next r.2 t.2 r.1.2 := by
      (with_reducible refine W.cnd (fun hcc => ?_) (fun hcc => ?_) <;> (try simp only [q1, q2, q3, q4, q5, q6, q7, q8, q9, q10, q11, q12, q13, q14, q15, q16, q17, q18, q19, q20, q21, q22, q23, q24, q25, q26, q27, q28, q29, q30] at hcc) <;> (try (exfalso; omega)))
      · refine W.scalS hCl ?_
        have hO' := hO.mono (Hle.out _ _)
        refine W.push hO' L (cs := [c]) (a := s.2) ⟨c, rfl, hO.apart hC, hC.from (Nat.le_refl _)⟩ (by omega) (by omega) fun o' τ' L' hO'' _ => ?_
        repeat' (with_reducible refine W.ret ?_)
        exact ⟨L', _, rfl, by rw [if_pos (by simpa using hcc)]; simp, by rw [if_pos (by simpa using hcc)]; exact hO'', by rw [if_pos (by simpa using hcc)]; exact Acc.nil _ _ _⟩
      · repeat' (with_reducible refine W.ret ?_)
        have hcc' : ¬ ((n % 7 = 0 ∧ s.2.length > 0) ∨ s.2.length ≥ 5) := by simpa using hcc
        exact ⟨L, _, rfl, by rw [if_neg hcc']; exact c2.1, by rw [if_neg hcc']; exact hO, by rw [if_neg hcc']; exact hC⟩
    repeat' (with_reducible refine W.bind ?_)
    refine W.mono hmid fun r hr => ?_
    obtain ⟨⟨o', c'⟩, τ'⟩ := r
    obtain ⟨L', t, ht, ht5, hO', hC'⟩ := hr
    dsimp only at L' hO' hC' ⊢
    have hx2 := hx.mono L'
    repeat' (with_reducible (first | refine W.bind ?_ | refine W.ixIc (by assumption) (by assumption) ?_))
    refine W.to (number_eq (by omega) (by omega)) ?_
    repeat' (with_reducible (first | refine W.ret ?_ | refine W.bind ?_))
    have h0 := Int.emod_nonneg n (show (1099511627776 : Int) ≠ 0 by omega)
    have h1 := Int.emod_lt_of_pos n (show (0 : Int) < 1099511627776 by omega)
    have w : IntKind.i64.wrap (Int.tdiv (n % 1099511627776) 7) = n % 1099511627776 / 7 := by
      rw [Int.tdiv_eq_ediv_of_nonneg h0, wrapS] <;> omega
    rw [w]
    refine W.to (lit_eq (by omega) hv) ?_
    repeat' (with_reducible refine W.ret ?_)
    refine W.pushI hC' L' (by omega) (by omega) fun c2 τ2 L2 hC2 X2 => ?_
    repeat' (with_reducible (first | refine W.next ?_ | refine W.ret ?_))
    refine ⟨by omega, sk, L2, ?_, ?_⟩
    · unfold stepC; rw [← ht]; exact hO'.mono X2
    · unfold stepC; rw [← ht]; exact hC2
  · repeat' (with_reducible refine W.stop ?_)
    rw [List.take_of_length_le (by omega)] at hO hC hci
    generalize l.foldl (stepC vars) ([], []) = s at *
    have c4 := hci.len2
    obtain ⟨c1, c2, c3⟩ := hci
    have hCl := hC.sl
    unfold endC
    repeat' (with_reducible (first | refine W.bind ?_ | refine W.len (by assumption) ?_))
    (with_reducible refine W.cnd (fun hcc => ?_) (fun hcc => ?_) <;> (try simp only [q1, q2, q3, q4, q5, q6, q7, q8, q9, q10, q11, q12, q13, q14, q15, q16, q17, q18, q19, q20, q21, q22, q23, q24, q25, q26, q27, q28, q29, q30] at hcc) <;> (try (exfalso; omega)))
    · refine W.scalS hCl ?_
      have hO' := hO.mono (Hle.out _ _)
      refine W.push hO' L (cs := [c]) (a := s.2) ⟨c, rfl, hO.apart hC, hC.from (Nat.le_refl _)⟩ (by omega) (by omega) fun o' τ' L' hO'' _ => ?_
      repeat' (with_reducible refine W.ret ?_)
      rw [if_pos (by omega)]
      exact ⟨L', hO''⟩
    · repeat' (with_reducible refine W.ret ?_)
      rw [if_neg (by omega)]
      exact ⟨L, hO.mono (Hle.out _ _)⟩
end Go.Proofs.YtgneblbblihaoaaDoor.A

/- A formula out of numbers. -/
namespace Go.Proofs.YtgneblbblihaoaaDoor.A
open Go

section
variable {α β : Type} {v : Vw α} {w : Vw β} {n m k l : Nat} {σ τ : Heap} {xs : List α} {ys : List β} {x y : AVal} {cs : List AVal}
theorem out_get (τ : Heap) (x : AVal) (l : Nat) (h : ∀ off len c, x ≠ .sl l off len c) : (out τ x).get l = τ.get l := by
  cases x with
  | sl k off len c =>
    show (τ.kill k).get l = _
    rw [hkill_get, if_neg (fun e => h off len c (by rw [e]))]
  | _ => rfl
theorem Acc.kill (h : Acc v n σ xs x) (hv : v.Over n) (hk : k < n) : Acc v n (σ.kill k) xs x := by
  rcases h with h | ⟨l, cs, h1, h2, h3, h4, h5, h6⟩
  · exact .inl h
  · refine .inr ⟨l, cs, h1, h2, h3, by rw [hkill_get, if_neg (by omega)]; exact h4, h5, fun i a hi => ?_⟩
    refine hv (σ.kill l) ((σ.kill k).kill l) _ _ (Nat.le_refl _) (fun j o hj hg => ?_) (h6 i a hi)
    rw [hkill_get] at hg ⊢
    split at hg
    · cases hg
    · rename_i h; rw [if_neg h, hkill_get, if_neg (by omega)]; exact hg
theorem Loc.out (h : Loc σ l cs) (hx : ∀ off len c, x ≠ .sl l off len c) : Loc (out σ x) l cs := ⟨by rw [out_next]; exact h.lt, h.get.elim fun sz e => ⟨sz, by rw [out_get _ _ _ hx]; exact e⟩⟩
/-- Of two lists that lie apart each lies outside of the other one. -/
theorem Acc.swap (hv : v.Flat) (hx : Acc v n τ xs x) (hy : Acc w m (A.out τ x) ys y) : Acc v n (A.out τ y) xs x := by
  rcases hx with hx | ⟨l, cs, rfl, h2, h3, h4, h5, h6⟩
  · exact .inl hx
  · refine .inr ⟨l, cs, rfl, h2, by rw [out_next]; exact h3, ?_, h5, fun i a hi => hv _ _ _ _ (h6 i a hi)⟩
    rw [out_get _ _ _ fun off len c e => ?_]
    · exact h4
    · subst e
      rcases hy with ⟨e, _⟩ | ⟨j, ds, e, _, _, k4, _⟩
      · cases e
      · cases e
        have k4 : (τ.kill l).get l = _ := k4
        rw [hkill_get, if_pos rfl] at k4; cases k4
theorem Hle.out_kill (τ : Heap) (x : AVal) (k : Nat) : Hle ((A.out τ x).kill k) (A.out (τ.kill k) x) := by
  cases x with
  | sl l off len c => exact ⟨Nat.le_refl _, fun j o _ hg => by
      show ((τ.kill k).kill l).get j = _
      have hg : ((τ.kill l).kill k).get j = _ := hg
      rw [hkill_get] at hg ⊢
      split at hg
      · cases hg
      · rename_i h1
        rw [hkill_get] at hg
        split at hg
        · cases hg
        · rename_i h2; rw [if_neg h2, hkill_get, if_neg h1]; exact hg⟩
  | _ => exact Hle.refl _
end

def upTo (n : Nat) : List Int := (List.range n).map fun (i : Nat) => (i : Int) + 1
/-- The variables of the two blocks. -/
def partA (n : Nat) (first : Int) (ex : Bool) (free : Int) : List Int := (upTo n).filter fun v => !(ex && decide (v ≤ free)) && decide (v ≤ first)
def partB (n : Nat) (first : Int) (ex : Bool) (free : Int) : List Int := (upTo n).filter fun v => !(ex && decide (v ≤ free)) && !decide (v ≤ first)
theorem upTo_succ (n : Nat) : upTo (n + 1) = upTo n ++ [(n : Int) + 1] := by simp [upTo, List.range_succ]
theorem upTo_mem {n : Nat} {v : Int} : v ∈ upTo n ↔ 1 ≤ v ∧ v ≤ n := by
  simp only [upTo, List.mem_map, List.mem_range]
  constructor
  · rintro ⟨i, hi, rfl⟩; omega
  · rintro ⟨h1, h2⟩; exact ⟨(v - 1).toNat, by omega, by omega⟩
theorem upTo_rising (n : Nat) : Rising (upTo n) := by
  induction n with
  | zero => exact List.Pairwise.nil
  | succ n ih =>
    rw [upTo_succ]
    refine List.pairwise_append.2 ⟨ih, by simp, fun a ha b hb => ?_⟩
    simp at hb; subst hb
    have := (upTo_mem.1 ha).2; omega

/-- Pushing a number onto a list in a field. -/
theorem pushField {R : Type} {σ0 τ : Heap} {l : Nat} {e : Bool} {a : AVal} {As : List Int} {z : Int} (hl : Loc τ l [.bool e, a]) (hA : Acc .int σ0.next τ As a) (L : Hle σ0 τ) (hlt : l < σ0.next) (hk : Hle σ0 (σ0.kill l)) (hb : As.length ≤ 1000000) {Q : R → Prop} {K : Heap → Option R}
    (c : ∀ τ2 a', Hle σ0 τ2 → Loc τ2 l [.bool e, a'] → Acc .int σ0.next τ2 (As ++ [z]) a' → Hle ((A.out τ a).kill l) (A.out τ2 a') → W (K τ2) Q) :
    W (fld (.ptr l 0) 1 fun a27 => ld τ a27 (.V) fun v28 => newK τ 1 [(.int .i64 z)] fun l29 σ30 => appS σ30 1 8 v28 (.sl l29 0 1 none) fun v31 σ32 => fld (.ptr l 0) 1 fun a33 => scal v31 (stC σ32 a33 [v31] K)) Q := by
  repeat' (with_reducible (first | refine W.asV ?_ | refine W.fldp ?_ | refine W.ldL (by assumption) (by with_unfolding_all rfl) ?_))
  refine W.pushI hA L (by omega) (by omega) fun a' τ1 L1 hA1 X1 => ?_
  have hne : ∀ off len c, a ≠ .sl l off len c := fun off len c e => by have := hA.loc _ _ _ _ e; omega
  have hl1 : Loc τ1 l [.bool e, a] := ((hl.out hne).mono X1).mono (Hle.out _ _)
  repeat' (with_reducible refine W.fldp ?_)
  refine W.scalS hA1.sl ?_
  refine W.st hl1 (Nat.le_of_ble_eq_true (by rfl)) fun τ2 L2 hnτ2 hl1 => ?_
  replace hl1 : Loc τ2 l [.bool e, a'] := hl1
  exact c τ2 a' ((hk.mono (L1.killed l)).mono L2) hl1 ((hA1.kill (Vw.int_flat.over _) hlt).mono L2) (((X1.killed l).mono (Hle.out_kill _ _ _)).mono (L2.outs _))
end Go.Proofs.YtgneblbblihaoaaDoor.A

/- A formula out of numbers, whole. -/
namespace Go.Proofs.YtgneblbblihaoaaDoor.A
open Go

theorem Acc.widen {σ : Heap} {n m : Nat} {xs : List (List Int)} {x : AVal} (h : Acc (vIsF n) n σ xs x) (hm : m ≤ n) : Acc (vIsF m) m σ xs x := by
  rcases h with h | ⟨j, cs, e1, e2, e3, e4, e5, e6⟩
  · exact .inl h
  · exact .inr ⟨j, cs, e1, by omega, e3, e4, e5, fun i a hi => by
      obtain ⟨u, q1, q2, q3⟩ := e6 i a hi
      exact ⟨u, q1, q2, fun l off len c e => by have := q3 l off len c e; omega⟩⟩
theorem cnf_w {σ : Heap} {l : List Int} {vars : Int} {x : AVal} (hx : SlV .int σ l x) (hb : l.length ≤ 1000000) (hv : vars ≤ 1000000) :
    W (S.skolemmake_CNF x vars σ) fun r => Hle σ r.2 ∧ ∃ y, r.1 = .agg [.int .i64 vars, y] ∧ Acc (vIsF σ.next) σ.next r.2 (clausesOf l vars) y := by
  unfold S.skolemmake_CNF
  refine W.new fun l1 τ hl1 L h1 hnτ => ?_
  refine W.call (clauses_w (hx.mono L) hb hv) fun r hr => ?_
  obtain ⟨y, τ2⟩ := r
  obtain ⟨L2, hA⟩ := hr
  dsimp only at L2 hA ⊢
  replace L := L.mono L2
  replace h1 := h1.mono L2
  have hnx := L2.next
  refine W.scalS hA.sl ?_
  refine W.st0 h1 (by rfl) fun τ3 L3 hnτ3 h1 => ?_
  repeat' (with_reducible (first | refine W.ret ?_ | refine W.ldGL (by assumption) (Nat.le_of_ble_eq_true (by with_unfolding_all rfl)) ?_))
  exact ⟨L.ofk (by omega) L3, y, rfl, ((hA.kill (k := l1) (vIsF_over _) (by omega)).mono L3).widen (by omega)⟩

theorem Hle.kill2 (σ : Heap) (k : Nat) : Hle (σ.kill k) ((σ.kill k).kill k) := ⟨Nat.le_refl _, fun l o _ hg => by
  rw [hkill_get] at hg ⊢
  split at hg
  · cases hg
  · rename_i h; rw [if_neg h, hkill_get, if_neg h]; exact hg⟩
theorem partA_succ (n : Nat) (first : Int) (ex : Bool) (free : Int) : partA (n + 1) first ex free = partA n first ex free ++ (if (!(ex && decide ((n : Int) + 1 ≤ free)) && decide ((n : Int) + 1 ≤ first)) = true then [(n : Int) + 1] else []) := by
  unfold partA; rw [upTo_succ, List.filter_append, List.filter_cons, List.filter_nil]
theorem partB_succ (n : Nat) (first : Int) (ex : Bool) (free : Int) : partB (n + 1) first ex free = partB n first ex free ++ (if (!(ex && decide ((n : Int) + 1 ≤ free)) && !decide ((n : Int) + 1 ≤ first)) = true then [(n : Int) + 1] else []) := by
  unfold partB; rw [upTo_succ, List.filter_append, List.filter_cons, List.filter_nil]
theorem partA_len (n : Nat) (first : Int) (ex : Bool) (free : Int) : (partA n first ex free).length ≤ n := Nat.le_trans (List.length_filter_le _ _) (by simp [upTo])
theorem partB_len (n : Nat) (first : Int) (ex : Bool) (free : Int) : (partB n first ex free).length ≤ n := Nat.le_trans (List.length_filter_le _ _) (by simp [upTo])

theorem formula_w {σ : Heap} {l : List Int} {n : Nat} {first free : Int} {ex : Bool} {x : AVal} (hx : SlV .int σ l x) (hb : l.length ≤ 1000000) (hn : n ≤ 100000) :
    W (S.skolemmake_Formula x (n : Int) first ex free σ) fun r => Hle σ r.2 ∧ ∃ u y, r.1 = .agg [u, .int .i64 n, y] ∧ SlV vB r.2 [(ex, partA n first ex free), (!ex, partB n first ex free)] u ∧ SlV vIs r.2 (clausesOf l n) y := by
  unfold S.skolemmake_Formula
  refine W.new fun l1 τ hl1 L h1 hnτ => ?_
  refine W.call (cnf_w (vars := (n : Int)) (hx.mono L) hb (by omega)) fun r hr => ?_
  obtain ⟨r, τ2⟩ := r
  obtain ⟨L2, y, e, hY⟩ := hr
  dsimp only at L2 e hY ⊢
  subst e
  replace L := L.mono L2
  replace h1 := h1.mono L2
  have hnx := L2.next
  repeat' (with_reducible (first | refine W.aggK (by with_unfolding_all rfl) ?_ | refine W.putC (by with_unfolding_all rfl) ?_))
  refine W.new fun l6 τ3 hl6 L3 h6 hnτ3 => ?_
  repeat' (with_reducible refine W.aggK (by with_unfolding_all rfl) ?_)
  refine W.st0 h6 (by rfl) fun τ4 L4 hnτ4 h6 => ?_
  replace h6 : Loc τ4 l6 [.nils, .int .i64 n, y] := h6
  have L24 : Hle τ2 τ4 := L3.ofk (by omega) L4
  replace h1 := h1.mono L24
  refine W.new fun l10 τ5 hl10 L5 h10 hnτ5 => ?_
  replace h1 := h1.mono L5
  replace h6 := h6.mono L5
  replace L24 := L24.mono L5
  have hnx := L5.next
  refine W.st0 h10 (by rfl) fun τ6 L6 hnτ6 h10 => ?_
  replace h1 := (h1.kill (by omega)).mono L6
  replace h6 := (h6.kill (by omega)).mono L6
  replace L24 := L24.ofk (by omega) L6
  refine W.new fun l13 τ7 hl13 L7 h13 hnτ7 => ?_
  replace h1 := h1.mono L7
  replace h6 := h6.mono L7
  replace h10 := h10.mono L7
  replace L24 := L24.mono L7
  have hnx := L7.next
  refine W.st0 h13 (by rfl) fun τ8 L8 hnτ8 h13 => ?_
  replace h1 := (h1.kill (by omega)).mono L8
  replace h6 := (h6.kill (by omega)).mono L8
  replace h10 := (h10.kill (by omega)).mono L8
  replace L24 := L24.ofk (by omega) L8
  -- what stays
  have hk10 : Hle ((τ8.kill l13).kill l10) (((τ8.kill l13).kill l10).kill l10) := Hle.kill2 _ _
  have hk13 : Hle ((τ8.kill l13).kill l10) (((τ8.kill l13).kill l10).kill l13) := ⟨Nat.le_refl _, fun j o _ hg => by
    rw [hkill_get] at hg ⊢
    split at hg
    · cases hg
    · rename_i h
      rw [hkill_get] at hg
      split at hg
      · cases hg
      · rename_i h'; rw [if_neg h', hkill_get, if_neg h, hkill_get, if_neg h']; exact hg⟩
  have h1s := (h1.kill (k := l13) (by omega)).kill (k := l10) (by omega)
  have h6s := (h6.kill (k := l13) (by omega)).kill (k := l10) (by omega)
  have Ls : Hle τ2 ((τ8.kill l13).kill l10) := (L24.kill (by omega)).kill (by omega)
  have Ls8 : Hle ((τ8.kill l13).kill l10) τ8 := (Hle.of_kill _ _).mono (Hle.of_kill _ _)
  have hns : ((τ8.kill l13).kill l10).next = τ8.next := rfl
  generalize (τ8.kill l13).kill l10 = σ0 at *
  repeat' (with_reducible refine W.bind ?_)
  have key : W (loopW (S.skolemmake_Formula.b0 (n : Int) first ex free (.ptr l1 0) (.ptr l6 0) (.ptr l10 0) (.ptr l13 0)) 1 τ8) fun r => Hle σ0 r.2 ∧ ∃ a b, Loc r.2 l10 [.bool ex, a] ∧ Loc r.2 l13 [.bool !ex, b] ∧
      Acc .int σ0.next r.2 (partA n first ex free) a ∧ Acc .int σ0.next (out r.2 a) (partB n first ex free) b := by
    refine W.loop n (fun i y τ => y = (i : Int) + 1 ∧ Hle σ0 τ ∧ ∃ a b, Loc τ l10 [.bool ex, a] ∧ Loc τ l13 [.bool !ex, b] ∧
      Acc .int σ0.next τ (partA i first ex free) a ∧ Acc .int σ0.next (out τ a) (partB i first ex free) b) ⟨rfl, Ls8, .nils, .nils, h10, h13, Acc.nil _ _ _, Acc.nil _ _ _⟩ fun i y τ hi hI => ?_
    obtain ⟨rfl, L, a, b, ha, hb, hA, hB⟩ := hI
    have hla := partA_len i first ex free
    have hlb := partB_len i first ex free
    have sk2 : IntKind.i64.wrap ((i : Int) + 1 + 1) = ((i + 1 : Nat) : Int) + 1 := by rw [wrapS] <;> omega
    have hnea : ∀ off len c, a ≠ .sl l13 off len c := fun off len c e => by have := hA.loc _ _ _ _ e; omega
    have hneb : ∀ off len c, b ≠ .sl l10 off len c := fun off len c e => by have := hB.loc _ _ _ _ e; omega
    unfold S.skolemmake_Formula.b0
    (with_reducible refine W.cnd (fun hq => ?_) (fun hq => ?_) <;> (try simp only [q1, q2, q3, q4, q5, q6, q7, q8, q9, q10, q11, q12, q13, q14, q15, q16, q17, q18, q19, q20, q21, q22, q23, q24, q25, q26, q27, q28, q29, q30, Kd.ty] at hq) <;> (try (exfalso; omega)))
    · have hcond : W (cond ex (some (decide ((i : Int) + 1 ≤ free))) (some false)) fun r => r = (ex && decide ((i : Int) + 1 ≤ free)) := by
        cases ex <;> exact W.ret rfl
      repeat' (with_reducible refine W.bind ?_)
      refine W.mono hcond fun r hr => ?_
      subst hr
      rw [partA_succ, partB_succ]
      cases hc1 : (ex && decide ((i : Int) + 1 ≤ free)) with
      | true =>
        refine W.condT rfl ?_
        repeat' (with_reducible (first | refine W.next ?_ | refine W.ret ?_))
        refine ⟨by omega, sk2, L, a, b, ha, hb, by simpa using hA, by simpa using hB⟩
      | false =>
        refine W.condF rfl ?_
        by_cases hc2 : (i : Int) + 1 ≤ first
        · refine W.condT (by simp [hc2]) ?_
          refine pushField ha hA L (by omega) hk10 (by omega) fun τ2 a' L2 ha2 hA2 X2 => ?_
          repeat' (with_reducible (first | refine W.next ?_ | refine W.ret ?_))
          have hnb2 := (hb.out hnea).kill (k := l10) (by omega)
          refine ⟨by omega, sk2, L2, a', b, ha2, (hnb2.mono X2).mono (Hle.out _ _), by simpa [hc2] using hA2, ?_⟩
          simpa [hc2] using (hB.kill (k := l10) (Vw.int_flat.over _) (by omega)).mono X2
        · refine W.condF (by simp [hc2]) ?_
          have hA' := hA.swap Vw.int_flat hB
          refine pushField hb (hB.mono (Hle.out _ _)) L (by omega) hk13 (by omega) fun τ2 b' L2 hb2 hB2 X2 => ?_
          repeat' (with_reducible (first | refine W.next ?_ | refine W.ret ?_))
          have hna2 := (ha.out hneb).kill (k := l13) (by omega)
          have hA2 := (hA'.kill (k := l13) (Vw.int_flat.over _) (by omega)).mono X2
          refine ⟨by omega, sk2, L2, a, b', (hna2.mono X2).mono (Hle.out _ _), hb2, by simpa [hc2] using hA2.mono (Hle.out _ _), ?_⟩
          simpa [hc2] using hB2.swap Vw.int_flat hA2
    · repeat' (with_reducible refine W.stop ?_)
      have : i = n := by omega
      subst this
      exact ⟨L, a, b, ha, hb, hA, hB⟩
  refine W.mono key fun r hr => ?_
  obtain ⟨r, τ9⟩ := r
  obtain ⟨L9, a, b, ha, hb, hA, hB⟩ := hr
  dsimp only at L9 ha hb hA hB ⊢
  repeat' (with_reducible (first | refine W.aggK (by with_unfolding_all rfl) ?_ | refine W.ldGL (by assumption) (Nat.le_of_ble_eq_true (by with_unfolding_all rfl)) ?_ | refine W.putC (by with_unfolding_all rfl) ?_))
  refine W.newg fun l51 τA hl51 LA _ hgA hnA => ?_
  have hn9 := L9.next
  have hU : SlV (vBF σ0.next) τA [(ex, partA n first ex free), (!ex, partB n first ex free)] (.sl l51 0 2 none) := .inr ⟨l51, 0, none, .rw, _, rfl, by omega, hgA, Nat.le_of_ble_eq_true rfl, fun i c hi => by
    match i, hi with
    | 0, hi => cases hi; exact vBF_mk (b := (ex, partA n first ex free)) (hA.sl.mono LA) (hA.from (Nat.le_refl _))
    | 1, hi => cases hi; exact vBF_mk (b := (!ex, partB n first ex free)) ((hB.sl.mono (Hle.out _ _)).mono LA) (hB.from (Nat.le_refl _))
    | k + 2, hi => simp at hi⟩
  have h6A := (h6s.mono L9).mono LA
  have h1A := (h1s.mono L9).mono LA
  have LsA := (Ls.mono L9).mono LA
  refine W.st h6A (Nat.le_of_ble_eq_true (by rfl)) fun τB LB hnτB h6A => ?_
  replace h6A : Loc τB l6 [.sl l51 0 2 none, .int .i64 n, y] := h6A
  replace h1A := (h1A.kill (by omega)).mono LB
  replace hU := (hU.ovr (k := l6) (vBF_over _) (fun l off len c e => by cases e; omega) (by omega)).mono LB
  repeat' (with_reducible (first | refine W.aggK (by with_unfolding_all rfl) ?_ | refine W.ldGL (by assumption) (Nat.le_of_ble_eq_true (by with_unfolding_all rfl)) ?_))
  refine W.st0 h1A (by rfl) fun τC LC hnτC h1A => ?_
  repeat' (with_reducible (first | refine W.ret ?_ | refine W.ldGL (by assumption) (Nat.le_of_ble_eq_true (by with_unfolding_all rfl)) ?_))
  have hU' := (hU.ovr (k := l1) (vBF_over _) (fun l off len c e => by cases e; omega) (by omega)).mono LC
  have L2B : Hle τ2 τB := LsA.ofk (by omega) LB
  exact ⟨(L.mono L2B).ofk (by omega) LC, _, _, rfl, hU'.ofBF, ((hY.sl.ovr (k := l1) (vIsF_over _) (hY.from (Nat.le_refl _)) (by omega)).ofIsF).mono ((L2B.killed l1).mono LC)⟩
end Go.Proofs.YtgneblbblihaoaaDoor.A

/- The game of a formula: the reference's way; PrefixSays, as0 plain law. -/
namespace Go.Proofs.YtgneblbblihaoaaDoor.A
open Go

theorem refNorm_w {σ : Heap} {vars : Int} {bs : List (Bool × List Int)} {cs : List (List Int)} {xb xc : AVal} (hb : SlV vB σ bs xb) (hcs : SlV vIs σ cs xc) (h1 : cs.flatten.length ≤ 200000) (h2 : cs.length ≤ 200000) (h3 : bs.length ≤ 200000)
    (h4 : total bs ≤ 200000) (hn : ∀ c ∈ cs, Nears c) : W (S.skolemref1_Norm2 (.agg [xb, .int .i64 vars, xc]) σ) fun r => Hle σ r.2 ∧ r.1.2 = .agg (fcells (normF bs vars cs)) ∧ ∃ us, r.1.1 = .agg us ∧ GmV r.2 (normG bs vars cs) us := by
  have hbt : ∀ b ∈ bs, b.2.length ≤ 200000 := fun b hb => Nat.le_trans (total_mem hb) h4
  unfold S.skolemref1_Norm2
  repeat' (with_reducible refine W.aggK (by with_unfolding_all rfl) ?_)
  refine W.new fun l2 τ hl2 L hf hnτ => ?_
  refine W.new fun l4 τ2 hl4 L2 h4' hnτ2 => ?_
  replace L := L.mono L2
  replace hf := hf.mono L2
  have hnx := L2.next
  refine W.new fun l6 τ3 hl6 L3 h6 hnτ3 => ?_
  replace L := L.mono L3
  replace hf := hf.mono L3
  replace h4' := h4'.mono L3
  have hnx := L3.next
  repeat' (with_reducible (first | refine W.bind ?_ | refine W.ldGL (by assumption) (Nat.le_of_ble_eq_true (by with_unfolding_all rfl)) ?_))
  refine W.mono (refCheckF_w (vars := vars) (hb.mono L) (hcs.mono L) (by omega) (by omega) (by omega) (by omega)) fun r hr => ?_
  obtain ⟨r, τ4⟩ := r; obtain ⟨hr, L4⟩ := hr; dsimp only at hr L4 ⊢; subst hr
  replace L := L.mono L4
  replace hf := hf.mono L4
  replace h4' := h4'.mono L4
  replace h6 := h6.mono L4
  have hnx := L4.next
  obtain ⟨ca, cb, cc, ec⟩ := fcells_eq (chkF bs vars cs)
  rw [ec]
  refine W.new fun l10 τ5 hl10 L5 h10 hnτ5 => ?_
  replace L := L.mono L5
  replace hf := hf.mono L5
  replace h4' := h4'.mono L5
  replace h6 := h6.mono L5
  have hnx := L5.next
  repeat' (with_reducible refine W.aggK (by with_unfolding_all rfl) ?_)
  refine W.st0 h10 (by rfl) fun τ6 L6 hnτ6 h10 => ?_
  replace L := L.ofk (by omega) L6
  replace hf := (hf.kill (by omega)).mono L6
  replace h4' := (h4'.kill (by omega)).mono L6
  replace h6 := (h6.kill (by omega)).mono L6
  repeat' (with_reducible (first | refine W.asI ?_ | refine W.ldL (by assumption) (by with_unfolding_all rfl) ?_))
  rw [fcells_code ec]
  unfold normF normG
  cases hq : chkF bs vars cs with
  | some f =>
    rw [hq] at ec
    repeat' (first | (with_reducible refine W.ldGL (by assumption) (Nat.le_of_ble_eq_true (by with_unfolding_all rfl)) ?_) | (with_reducible refine W.condT ?_ ?_; focus (first | (simp only [q1, q2, q3, q4, q5, q6, q7, q8, q9, q10, q11, q12, q13, q14, q15, q16, q17, q18, q19, q20, q21, q22, q23, q24, q25, q26, q27, q28, q29, q30]; done) | (simp only [q1, q2, q3, q4, q5, q6, q7, q8, q9, q10, q11, q12, q13, q14, q15, q16, q17, q18, q19, q20, q21, q22, q23, q24, q25, q26, q27, q28, q29, q30]; omega) | assumption)))
    refine W.st0 h4' (by rfl) fun τ7 L7 hnτ7 h4' => ?_
    replace L := L.ofk (by omega) L7
    replace h10 := (h10.kill (by omega)).mono L7
    replace h6 := (h6.kill (by omega)).mono L7
    repeat' (with_reducible (first | refine W.chk rfl ?_ | refine W.aggK (by with_unfolding_all rfl) ?_ | refine W.ldGL (by assumption) (Nat.le_of_ble_eq_true (by with_unfolding_all rfl)) ?_))
    refine W.st0 h6 (by rfl) fun τ8 L8 hnτ8 h6 => ?_
    replace L := L.ofk (by omega) L8
    replace h4' := (h4'.kill (by omega)).mono L8
    repeat' (with_reducible (first | refine W.ret ?_ | refine W.ldGL (by assumption) (Nat.le_of_ble_eq_true (by with_unfolding_all rfl)) ?_))
    exact ⟨L, congrArg AVal.agg ec.symm, _, rfl, zeroG_v _⟩
  | none =>
    rw [hq] at ec
    have hco : [AVal.int .i64 ca, .bool cb, .int .i64 cc] = fcells none := ec.symm
    repeat' (first | (with_reducible (first | refine W.bind ?_ | refine W.ldGL (by assumption) (Nat.le_of_ble_eq_true (by with_unfolding_all rfl)) ?_)) | (with_reducible refine W.condF ?_ ?_; focus (first | (simp only [q1, q2, q3, q4, q5, q6, q7, q8, q9, q10, q11, q12, q13, q14, q15, q16, q17, q18, q19, q20, q21, q22, q23, q24, q25, q26, q27, q28, q29, q30]; done) | (simp only [q1, q2, q3, q4, q5, q6, q7, q8, q9, q10, q11, q12, q13, q14, q15, q16, q17, q18, q19, q20, q21, q22, q23, q24, q25, q26, q27, q28, q29, q30]; omega) | assumption)))
    refine W.mono (refFree_w (n := vars) (hb.mono L) (hcs.mono L) (by omega) (by omega) (by omega) (by rw [← total_vars]; omega) hn) fun r hr => ?_
    obtain ⟨z, τ7⟩ := r
    obtain ⟨L7, hz⟩ := hr
    dsimp only at hz L7 ⊢
    have hf3 := hf
    replace L := L.mono L7
    replace hf := hf.mono L7
    replace h4' := h4'.mono L7
    replace h6 := h6.mono L7
    replace h10 := h10.mono L7
    have hnx := L7.next
    refine W.scalS hz.sl (W.newg fun l13 τ8 hl13 L8 _ hg13 hn8 => ?_)
    have hfl : (free bs cs).length ≤ 200000 := by
      have := nodup_len (xs := free bs cs) (ys := cs.flatten.map fun l => (l.natAbs : Int)) ((free_rising bs cs).imp fun {a b} h => by omega) fun v hv => by
        obtain ⟨⟨c, hc, l, hl, e⟩, _⟩ := (free_mem bs cs v).1 hv
        exact List.mem_map.2 ⟨l, List.mem_flatten.2 ⟨c, hc, hl⟩, e⟩
      rw [List.length_map] at this; omega
    repeat' (with_reducible (first | refine W.asV ?_ | refine W.chk rfl ?_ | refine W.ldL (by assumption) (by with_unfolding_all rfl) ?_))
    have hA1 : Acc vB τ7.next τ8 [(true, free bs cs)] (.sl l13 0 1 none) := Acc.one hl13 hg13 hn8 L8 (vB_mk (b := (true, free bs cs)) hz.sl) (Nat.le_refl _)
    refine W.app (ys := bs) hA1 L8 ((hb.mono L).mono (hA1.out_le L8)) (by simp; omega) (by simp; omega) fun w τ9 L9 hA9 _ => ?_
    replace L := L.mono L9
    replace hf := hf.mono L9
    replace h4' := h4'.mono L9
    replace h6 := h6.mono L9
    replace h10 := h10.mono L9
    have hnx := L9.next
    repeat' (with_reducible refine W.bind ?_)
    refine W.mono (refMerge_w (bs := (true, free bs cs) :: bs) hA9.sl (by simp; omega) (by simp [total] at h4 ⊢; omega)) fun r hr => ?_
    obtain ⟨m, τA⟩ := r
    obtain ⟨LA, hm⟩ := hr
    dsimp only at hm LA ⊢
    replace L := L.mono LA
    replace hf := hf.mono LA
    replace h4' := h4'.mono LA
    replace h6 := h6.mono LA
    replace h10 := h10.mono LA
    have hnx := LA.next
    have hcA := hcs.mono L
    repeat' (with_reducible (first | refine W.asV ?_ | refine W.ldL (by assumption) (by with_unfolding_all rfl) ?_ | refine W.scalS (by assumption) ?_))
    have L0 := L
    refine W.new fun l22 τB hl22 LB h22 hnτB => ?_
    replace h4' := h4'.mono LB
    replace h6 := h6.mono LB
    replace h10 := h10.mono LB
    have hnx := LB.next
    refine W.st h22 (Nat.le_of_ble_eq_true (by rfl)) fun τC LC hnτC h22 => ?_
    have LAC : Hle τA τC := LB.ofk (by omega) LC
    replace h22 : Loc τC l22 [.bool true, .nils, .nils, xc] := h22
    have hml := hm.sl.mono LAC
    replace h4' := (h4'.kill (by omega)).mono LC
    replace h6 := (h6.kill (by omega)).mono LC
    replace h10 := (h10.kill (by omega)).mono LC
    repeat' (with_reducible (first | refine W.bind ?_ | refine W.len (by assumption) ?_))
    -- facts that outlive the writes to what was made at first
    have hkk : Hle ((τA.kill l4).kill l6) τA := (Hle.of_kill _ _).mono (Hle.of_kill _ _)
    have hyk : SlV vIs ((τA.kill l4).kill l6) cs xc := hcs.mono ((L0.kill (by omega)).kill (by omega))
    have hlk : ∀ (i : Nat) (b : Bool × List Int), (merge ((true, free bs cs) :: bs))[i]? = some b → ∃ p x, (∀ {υ : Heap}, Hle τA υ → ∀ {Rt : Type} (K : AVal → Option Rt), ixA υ m 2 (i : Int) K = K p) ∧ At τA p [.bool b.1, x] ∧ SlV .int ((τA.kill l4).kill l6) b.2 x ∧ SlV .int τA b.2 x := fun i b hi => by
      obtain ⟨p, us, g1, g2, g3⟩ := hm.sl.ix hi
      obtain ⟨x, rfl, g4, g5⟩ := vBF_rel g2
      exact ⟨p, x, g3, g1, (g4.ovr (Vw.int_flat.over _) g5 (by omega)).ovr (Vw.int_flat.over _) g5 (by omega), g4⟩
    -- what comes behind the cases: both are written, and handed back
    have fin : ∀ (g : Gm) (us : List AVal) (υ : Heap), us.length = 4 → Hle τA υ → Loc υ l4 [.bool false, .nils, .nils, .nils] → Loc υ l6 [.int .i64 0, .bool false, .int .i64 0] → Loc υ l10 [.int .i64 ca, .bool cb, .int .i64 cc] → Loc υ l22 us →
        (∀ ω, Hle ((τA.kill l4).kill l6) ω → GmV ω g us) → W (ldG υ (.ptr l22 0) 4 fun g57 => ldG υ (.ptr l10 0) 3 fun g58 => aggK g57 4 fun cs59 => stC υ (.ptr l4 0) cs59 fun σ60 => ldG σ60 (.ptr l10 0) 3 fun g61 => chk ((g61 : AVal) = g58) (
          aggK g58 3 fun cs62 => stC σ60 (.ptr l6 0) cs62 fun σ63 => ldG σ63 (.ptr l4 0) 4 fun g64 => ldG σ63 (.ptr l6 0) 3 fun g65 => some ((g64, g65), σ63))) fun r => Hle σ r.2 ∧ r.1.2 = .agg (fcells none) ∧ ∃ us, r.1.1 = .agg us ∧ GmV r.2 g us := by
      intro g us υ hus LU q4 q6 q10 q22 hG
      have e4 : (us.drop 0).take 4 = us := by rw [List.drop_zero]; exact List.take_of_length_le (by omega)
      refine W.ldGL q22 (by omega) ?_
      rw [e4]
      repeat' (with_reducible refine W.ldGL (by assumption) (Nat.le_of_ble_eq_true (by with_unfolding_all rfl)) ?_)
      refine W.aggK hus ?_
      refine W.st0 q4 (by rw [hus]; rfl) fun τD LD hnD q4 => ?_
      replace q6 := (q6.kill (by omega)).mono LD
      replace q10 := (q10.kill (by omega)).mono LD
      repeat' (with_reducible (first | refine W.chk rfl ?_ | refine W.aggK (by with_unfolding_all rfl) ?_ | refine W.ldGL (by assumption) (Nat.le_of_ble_eq_true (by with_unfolding_all rfl)) ?_))
      refine W.st0 q6 (by rfl) fun τE LE hnτE q6 => ?_
      replace q4 := (q4.kill (by omega)).mono LE
      refine W.ldGL q4 (by omega) ?_
      rw [e4]
      repeat' (with_reducible (first | refine W.ret ?_ | refine W.ldGL (by assumption) (Nat.le_of_ble_eq_true (by with_unfolding_all rfl)) ?_))
      have Lf : Hle ((τA.kill l4).kill l6) τE := (((LU.killed l4).mono LD).killed l6).mono LE
      exact ⟨((L0.kill (by omega)).kill (by omega)).mono Lf, by rw [← hco]; rfl, _, rfl, hG _ Lf⟩
    unfold allB
    generalize merge ((true, free bs cs) :: bs) = M at *
    match M, hml, hlk with
    | [], hml, hlk =>
      refine W.condT (by rfl) ?_
      refine W.ret ?_
      exact fin (true, [], [], cs) [.bool true, .nils, .nils, xc] _ rfl LAC h4' h6 h10 h22 fun ω hω => ⟨_, _, _, rfl, SlV.nil _ _, SlV.nil _ _, hyk.mono hω⟩
    | [a], hml, hlk =>
      obtain ⟨p, x, e1, g1, g2, g3⟩ := hlk 0 a rfl
      obtain ⟨lp, op, _, _, _, rfl, hlp, _⟩ := id g1
      have gC := g1.mono LAC
      refine W.condF (by rfl) ?_
      repeat' (with_reducible refine W.bind ?_)
      refine W.condT (by rfl) ?_
      repeat' (with_reducible refine W.ret ?_)
      refine W.condT (by rfl) ?_
      refine W.to (e1 LAC _) ?_
      repeat' (with_reducible (first | refine W.asB ?_ | refine W.fldp ?_ | refine W.ldp (by assumption) (by with_unfolding_all rfl) ?_))
      refine W.st h22 (Nat.le_of_ble_eq_true (by rfl)) fun τD LD hnτD h22 => ?_
      replace h22 : Loc τD l22 [.bool a.1, .nils, .nils, xc] := h22
      replace h4' := (h4'.kill (by omega)).mono LD
      replace h6 := (h6.kill (by omega)).mono LD
      replace h10 := (h10.kill (by omega)).mono LD
      have LAD : Hle τA τD := LAC.ofk (by omega) LD
      have gD := g1.mono LAD
      refine W.to (e1 LAD _) ?_
      repeat' (with_reducible (first | refine W.asV ?_ | refine W.fldp ?_ | refine W.ldp (by assumption) (by with_unfolding_all rfl) ?_ | refine W.scalS (by assumption) ?_))
      refine W.st h22 (Nat.le_of_ble_eq_true (by rfl)) fun τE LE hnτE h22 => ?_
      replace h22 : Loc τE l22 [.bool a.1, x, .nils, xc] := h22
      replace h4' := (h4'.kill (by omega)).mono LE
      replace h6 := (h6.kill (by omega)).mono LE
      replace h10 := (h10.kill (by omega)).mono LE
      have LAE : Hle τA τE := LAD.ofk (by omega) LE
      have hmE := hm.sl.mono LAE
      repeat' (with_reducible refine W.len (by assumption) ?_)
      refine W.condF (by rfl) ?_
      refine W.ret ?_
      exact fin (a.1, a.2, [], cs) [.bool a.1, x, .nils, xc] _ rfl LAE h4' h6 h10 h22 fun ω hω => ⟨_, _, _, rfl, g2.mono hω, SlV.nil _ _, hyk.mono hω⟩
    | [a, b], hml, hlk =>
      obtain ⟨p, x, e1, g1, g2, g3⟩ := hlk 0 a rfl
      obtain ⟨lp, op, _, _, _, rfl, hlp, _⟩ := id g1
      obtain ⟨q, z2, e2, k1, k2, k3⟩ := hlk 1 b rfl
      obtain ⟨lq, oq, _, _, _, rfl, hlq, _⟩ := id k1
      have gC := g1.mono LAC
      refine W.condF (by rfl) ?_
      repeat' (with_reducible refine W.bind ?_)
      refine W.condF (by rfl) ?_
      repeat' (with_reducible refine W.ret ?_)
      refine W.condT (by rfl) ?_
      refine W.to (e1 LAC _) ?_
      repeat' (with_reducible (first | refine W.asB ?_ | refine W.fldp ?_ | refine W.ldp (by assumption) (by with_unfolding_all rfl) ?_))
      refine W.st h22 (Nat.le_of_ble_eq_true (by rfl)) fun τD LD hnτD h22 => ?_
      replace h22 : Loc τD l22 [.bool a.1, .nils, .nils, xc] := h22
      replace h4' := (h4'.kill (by omega)).mono LD
      replace h6 := (h6.kill (by omega)).mono LD
      replace h10 := (h10.kill (by omega)).mono LD
      have LAD : Hle τA τD := LAC.ofk (by omega) LD
      have gD := g1.mono LAD
      refine W.to (e1 LAD _) ?_
      repeat' (with_reducible (first | refine W.asV ?_ | refine W.fldp ?_ | refine W.ldp (by assumption) (by with_unfolding_all rfl) ?_ | refine W.scalS (by assumption) ?_))
      refine W.st h22 (Nat.le_of_ble_eq_true (by rfl)) fun τE LE hnτE h22 => ?_
      replace h22 : Loc τE l22 [.bool a.1, x, .nils, xc] := h22
      replace h4' := (h4'.kill (by omega)).mono LE
      replace h6 := (h6.kill (by omega)).mono LE
      replace h10 := (h10.kill (by omega)).mono LE
      have LAE : Hle τA τE := LAD.ofk (by omega) LE
      have hmE := hm.sl.mono LAE
      have kE := k1.mono LAE
      repeat' (with_reducible refine W.len (by assumption) ?_)
      refine W.condT (by rfl) ?_
      refine W.to (e2 LAE _) ?_
      repeat' (with_reducible (first | refine W.asV ?_ | refine W.fldp ?_ | refine W.ldp (by assumption) (by with_unfolding_all rfl) ?_ | refine W.scalS (by assumption) ?_))
      refine W.st h22 (Nat.le_of_ble_eq_true (by rfl)) fun τF LF hnτF h22 => ?_
      replace h22 : Loc τF l22 [.bool a.1, x, z2, xc] := h22
      replace h4' := (h4'.kill (by omega)).mono LF
      replace h6 := (h6.kill (by omega)).mono LF
      replace h10 := (h10.kill (by omega)).mono LF
      have LAF : Hle τA τF := LAE.ofk (by omega) LF
      refine W.ret ?_
      exact fin (a.1, a.2, b.2, cs) [.bool a.1, x, z2, xc] _ rfl LAF h4' h6 h10 h22 fun ω hω => ⟨_, _, _, rfl, g2.mono hω, k2.mono hω, hyk.mono hω⟩
    | a :: b :: c :: M, hml, hlk =>
      have hl1 : (((a :: b :: c :: M).length : Int) == 0) = false := by simp; omega
      have hl2 : (((a :: b :: c :: M).length : Int) == 1) = false := by simp; omega
      have hl3 : (((a :: b :: c :: M).length : Int) == 2) = false := by simp; omega
      refine W.condF hl1 ?_
      repeat' (with_reducible refine W.bind ?_)
      refine W.condF hl2 ?_
      repeat' (with_reducible refine W.ret ?_)
      refine W.condF hl3 ?_
      refine W.call bare_w fun r hr => ?_
      obtain ⟨r, τD⟩ := r; obtain ⟨hr, LD⟩ := hr; dsimp only at hr LD ⊢; subst hr
      replace h4' := h4'.mono LD
      replace h6 := h6.mono LD
      have hnx := LD.next
      refine W.st0 h4' (by rfl) fun τE LE hnτE h4' => ?_
      replace h6 := (h6.kill (by omega)).mono LE
      repeat' (with_reducible refine W.aggK (by with_unfolding_all rfl) ?_)
      refine W.st0 h6 (by rfl) fun τF LF hnτF h6 => ?_
      replace h4' := (h4'.kill (by omega)).mono LF
      repeat' (with_reducible (first | refine W.ret ?_ | refine W.ldGL (by assumption) (Nat.le_of_ble_eq_true (by with_unfolding_all rfl)) ?_))
      have Lf : Hle ((τA.kill l4).kill l6) τF := ((((LAC.mono LD).killed l4).mono LE).killed l6).mono LF
      refine ⟨((L0.kill (by omega)).kill (by omega)).mono Lf, ?_, _, rfl, zeroG_v _⟩
      rw [if_neg (by simp)]
      rfl

/-! ### The law -/
theorem light_w {σ : Heap} {vars : Int} {bs : List (Bool × List Int)} {cs : List (List Int)} {xb xc : AVal} (hb : SlV vB σ bs xb) (hcs : SlV vIs σ cs xc) (h1 : bs.length ≤ 140737488351232) (h2 : cs.length ≤ 140737488351232)
    (h3 : ∀ b ∈ bs, b.2.length ≤ 140737488351232 ∧ ∀ l ∈ b.2, l ≤ 9223372036854775807) (h4 : ∀ c ∈ cs, c.length ≤ 140737488351232 ∧ ∀ l ∈ c, l ≤ 9223372036854775807) :
    W (S.skolemlaw6_light (.agg [xb, .int .i64 vars, xc]) σ) fun r => Hle σ r.2 ∧ (r.1 = true → bs.length ≤ 8 ∧ cs.length ≤ 60 ∧ cs.flatten.length ≤ 300 ∧ (∀ c ∈ cs, Nears c) ∧ ∀ b ∈ bs, b.2.length ≤ 30) := by
  unfold S.skolemlaw6_light
  repeat' (with_reducible refine W.aggK (by with_unfolding_all rfl) ?_)
  refine W.new fun l τ hl L hf hnτ => ?_
  have hb' := hb.mono L
  have hc' := hcs.mono L
  repeat' (with_reducible (first | refine W.bind ?_ | refine W.asV ?_ | refine W.len (by assumption) ?_ | refine W.ldL (by assumption) (by with_unfolding_all rfl) ?_))
  by_cases c1 : bs.length > 8
  · repeat' (first | (with_reducible refine W.ret ?_) | (with_reducible refine W.condT ?_ ?_; focus (first | (simp only [q1, q2, q3, q4, q5, q6, q7, q8, q9, q10, q11, q12, q13, q14, q15, q16, q17, q18, q19, q20, q21, q22, q23, q24, q25, q26, q27, q28, q29, q30]; done) | (simp only [q1, q2, q3, q4, q5, q6, q7, q8, q9, q10, q11, q12, q13, q14, q15, q16, q17, q18, q19, q20, q21, q22, q23, q24, q25, q26, q27, q28, q29, q30]; omega) | assumption)))
    exact ⟨L, fun h => by cases h⟩
  by_cases c2 : cs.length > 60
  · repeat' (first | (with_reducible (first | refine W.ret ?_ | refine W.asV ?_ | refine W.len (by assumption) ?_ | refine W.ldL (by assumption) (by with_unfolding_all rfl) ?_)) | (with_reducible refine W.condT ?_ ?_; focus (first | (simp only [q1, q2, q3, q4, q5, q6, q7, q8, q9, q10, q11, q12, q13, q14, q15, q16, q17, q18, q19, q20, q21, q22, q23, q24, q25, q26, q27, q28, q29, q30]; done) | (simp only [q1, q2, q3, q4, q5, q6, q7, q8, q9, q10, q11, q12, q13, q14, q15, q16, q17, q18, q19, q20, q21, q22, q23, q24, q25, q26, q27, q28, q29, q30]; omega) | assumption)) | (with_reducible refine W.condF ?_ ?_; focus (first | (simp only [q1, q2, q3, q4, q5, q6, q7, q8, q9, q10, q11, q12, q13, q14, q15, q16, q17, q18, q19, q20, q21, q22, q23, q24, q25, q26, q27, q28, q29, q30]; done) | (simp only [q1, q2, q3, q4, q5, q6, q7, q8, q9, q10, q11, q12, q13, q14, q15, q16, q17, q18, q19, q20, q21, q22, q23, q24, q25, q26, q27, q28, q29, q30]; omega) | assumption)))
    exact ⟨L, fun h => by cases h⟩
  repeat' (first | (with_reducible (first | refine W.bind ?_ | refine W.asV ?_ | refine W.len (by assumption) ?_ | refine W.ldL (by assumption) (by with_unfolding_all rfl) ?_)) | (with_reducible refine W.condF ?_ ?_; focus (first | (simp only [q1, q2, q3, q4, q5, q6, q7, q8, q9, q10, q11, q12, q13, q14, q15, q16, q17, q18, q19, q20, q21, q22, q23, q24, q25, q26, q27, q28, q29, q30]; done) | (simp only [q1, q2, q3, q4, q5, q6, q7, q8, q9, q10, q11, q12, q13, q14, q15, q16, q17, q18, q19, q20, q21, q22, q23, q24, q25, q26, q27, q28, q29, q30]; omega) | assumption)))
  obtain ⟨n, en, hn⟩ := nearAll_eq hc' (by omega) (fun c hc => by have := (h4 c hc).1; omega)
  refine W.to en ?_
  repeat' (with_reducible refine W.ret ?_)
  cases n with
  | false =>
    repeat' (first | (with_reducible refine W.ret ?_) | (with_reducible refine W.condT ?_ ?_; focus (first | (simp only [q1, q2, q3, q4, q5, q6, q7, q8, q9, q10, q11, q12, q13, q14, q15, q16, q17, q18, q19, q20, q21, q22, q23, q24, q25, q26, q27, q28, q29, q30]; done) | (simp only [q1, q2, q3, q4, q5, q6, q7, q8, q9, q10, q11, q12, q13, q14, q15, q16, q17, q18, q19, q20, q21, q22, q23, q24, q25, q26, q27, q28, q29, q30]; omega) | assumption)))
    exact ⟨L, fun h => by cases h⟩
  | true =>
    repeat' (first | (with_reducible (first | refine W.bind ?_ | refine W.asV ?_ | refine W.ldL (by assumption) (by with_unfolding_all rfl) ?_)) | (with_reducible refine W.condF ?_ ?_; focus (first | (simp only [q1, q2, q3, q4, q5, q6, q7, q8, q9, q10, q11, q12, q13, q14, q15, q16, q17, q18, q19, q20, q21, q22, q23, q24, q25, q26, q27, q28, q29, q30]; done) | (simp only [q1, q2, q3, q4, q5, q6, q7, q8, q9, q10, q11, q12, q13, q14, q15, q16, q17, q18, q19, q20, q21, q22, q23, q24, q25, q26, q27, q28, q29, q30]; omega) | assumption)))
    refine W.to (count_eq hc' (by omega) (fun c hc => by have := (h4 c hc).1; omega)) ?_
    repeat' (with_reducible refine W.ret ?_)
    (with_reducible refine W.cnd (fun hc => ?_) (fun hc => ?_) <;> (try simp only [q1, q2, q3, q4, q5, q6, q7, q8, q9, q10, q11, q12, q13, q14, q15, q16, q17, q18, q19, q20, q21, q22, q23, q24, q25, q26, q27, q28, q29, q30] at hc) <;> (try (exfalso; omega)))
    · repeat' (with_reducible refine W.ret ?_)
      exact ⟨L, fun h => by cases h⟩
    · repeat' (with_reducible refine W.bind ?_)
      refine W.loopP bs.length (fun i y => y = (i : Int) ∧ ∀ j a, j < i → bs[j]? = some a → a.2.length ≤ 30) ⟨rfl, upto0⟩ fun i y hi hI => ?_
      obtain ⟨rfl, hI⟩ := hI
      unfold S.skolemlaw6_light.b0
      repeat' (with_reducible (first | refine W.asV ?_ | refine W.fldp ?_ | refine W.len (by assumption) ?_ | refine W.ldL (by assumption) (by with_unfolding_all rfl) ?_))
      (with_reducible refine W.cnd (fun hc => ?_) (fun hc => ?_) <;> (try simp only [q1, q2, q3, q4, q5, q6, q7, q8, q9, q10, q11, q12, q13, q14, q15, q16, q17, q18, q19, q20, q21, q22, q23, q24, q25, q26, q27, q28, q29, q30] at hc) <;> (try (exfalso; omega)))
      · repeat' (with_reducible (first | refine W.bind ?_ | refine W.asV ?_ | refine W.fldp ?_ | refine W.ldL (by assumption) (by with_unfolding_all rfl) ?_))
        refine W.ixc hb' (by omega) fun p us b hbi hp hr => ?_
        obtain ⟨x, rfl, hx⟩ := vB_rel hr
        repeat' (with_reducible (first | refine W.asV ?_ | refine W.len (by assumption) ?_ | refine W.fldld (by assumption) (by with_unfolding_all rfl) ?_))
        (with_reducible refine W.cnd (fun hq => ?_) (fun hq => ?_) <;> (try simp only [q1, q2, q3, q4, q5, q6, q7, q8, q9, q10, q11, q12, q13, q14, q15, q16, q17, q18, q19, q20, q21, q22, q23, q24, q25, q26, q27, q28, q29, q30] at hq) <;> (try (exfalso; omega)))
        · repeat' (first | (with_reducible (first | refine W.stopP ?_ | refine W.ret ?_)) | (with_reducible refine W.condT ?_ ?_; focus (first | (simp only [q1, q2, q3, q4, q5, q6, q7, q8, q9, q10, q11, q12, q13, q14, q15, q16, q17, q18, q19, q20, q21, q22, q23, q24, q25, q26, q27, q28, q29, q30]; done) | (simp only [q1, q2, q3, q4, q5, q6, q7, q8, q9, q10, q11, q12, q13, q14, q15, q16, q17, q18, q19, q20, q21, q22, q23, q24, q25, q26, q27, q28, q29, q30]; omega) | assumption)))
          exact ⟨L, fun h => by cases h⟩
        · repeat' (with_reducible (first | refine W.asV ?_ | refine W.fldp ?_ | refine W.ldL (by assumption) (by with_unfolding_all rfl) ?_))
          refine W.ixkc hb' hbi fun p us hp hr => ?_
          obtain ⟨x, rfl, hx⟩ := vB_rel hr
          repeat' (with_reducible (first | refine W.bind ?_ | refine W.asV ?_ | refine W.fldld (by assumption) (by with_unfolding_all rfl) ?_))
          obtain ⟨n2, en2, _⟩ := near_eq hx (by omega)
          refine W.to en2 ?_
          repeat' (with_reducible refine W.ret ?_)
          (with_reducible refine W.cnd (fun hc => ?_) (fun hc => ?_) <;> (try simp only [q1, q2, q3, q4, q5, q6, q7, q8, q9, q10, q11, q12, q13, q14, q15, q16, q17, q18, q19, q20, q21, q22, q23, q24, q25, q26, q27, q28, q29, q30] at hc) <;> (try (exfalso; omega)))
          · repeat' (with_reducible (first | refine W.stopP ?_ | refine W.ret ?_))
            exact ⟨L, fun h => by cases h⟩
          · repeat' (with_reducible refine W.nextP ?_)
            exact ⟨by omega, sk, upto (P := fun _ a => a.2.length ≤ 30) hI hbi (by omega)⟩
      · repeat' (with_reducible (first | refine W.stopP ?_ | refine W.ret ?_))
        refine ⟨L, fun _ => ⟨by omega, by omega, by omega, fun c hc l hl => ⟨hn rfl c hc l hl, (h4 c hc).2 l hl⟩, fun b hb => ?_⟩⟩
        obtain ⟨j, hj, e⟩ := List.getElem_of_mem hb
        exact hI j b (by omega) (by rw [List.getElem?_eq_getElem hj, e])
end Go.Proofs.YtgneblbblihaoaaDoor.A

/- PrefixSays, as0 plain law. -/
namespace Go.Proofs.YtgneblbblihaoaaDoor.A
open Go

theorem first6_w {σ : Heap} : W (S.skolemlaw6_first σ) fun r => r.1 = true ∧ Hle σ r.2 := by
  obtain ⟨τ, e, L⟩ := first6_eq σ
  exact ⟨_, e, rfl, L⟩
theorem normG_ok {bs : List (Bool × List Int)} {vars : Int} {cs : List (List Int)} : (normG bs vars cs).2.1.length ≤ total (allB bs cs) ∧ (normG bs vars cs).2.2.1.length ≤ total (allB bs cs) ∧ ((normG bs vars cs).2.2.2 = [] ∨ (normG bs vars cs).2.2.2 = cs) := by
  unfold normG
  split
  · simp [zeroG]
  · generalize allB bs cs = M
    match M with
    | [] => simp [gameOf]
    | [a] => simp [gameOf, total]
    | [a, b] => simp [gameOf, total]
    | a :: b :: c :: M => simp [gameOf, zeroG]
theorem merge_total (bs : List (Bool × List Int)) : total (merge bs) = total bs := by
  have := (foldl_merge bs []).1; simpa [total, merge] using this
theorem free_len (bs : List (Bool × List Int)) (cs : List (List Int)) : (free bs cs).length ≤ cs.flatten.length := by
  have := nodup_len (xs := free bs cs) (ys := cs.flatten.map fun l => (l.natAbs : Int)) ((free_rising bs cs).imp fun {a b} h => by omega) fun v hv => by
    obtain ⟨⟨c, hc, l, hl, e⟩, _⟩ := (free_mem bs cs v).1 hv
    exact List.mem_map.2 ⟨l, List.mem_flatten.2 ⟨c, hc, hl⟩, e⟩
  rwa [List.length_map] at this

theorem total_le {bs : List (Bool × List Int)} {n : Nat} (h : ∀ b ∈ bs, b.2.length ≤ n) : total bs ≤ bs.length * n := by
  induction bs with
  | nil => simp [total]
  | cons b bs ih =>
    have h1 := h b (by simp)
    have h2 := ih fun c hc => h c (List.mem_cons_of_mem _ hc)
    simp only [total, List.map_cons, List.sum_cons, List.length_cons, Nat.add_mul] at *
    omega

theorem says_plain {σ : Heap} {vars : Int} {bs : List (Bool × List Int)} {cs : List (List Int)} {xb xc : AVal} (hg : GlAll σ) (hb : SlV vB σ bs xb) (hcs : SlV vIs σ cs xc) (h1 : bs.length ≤ 140737488351232) (h2 : cs.length ≤ 140737488351232)
    (h3 : ∀ b ∈ bs, b.2.length ≤ 140737488351232 ∧ ∀ l ∈ b.2, l ≤ 9223372036854775807) (h4 : ∀ c ∈ cs, c.length ≤ 140737488351232 ∧ ∀ l ∈ c, l ≤ 9223372036854775807) :
    W (S.skolemlaw6_PrefixSays (.agg [xb, .int .i64 vars, xc]) σ) fun r => r.1 = true := by
  unfold S.skolemlaw6_PrefixSays
  repeat' (with_reducible refine W.aggK (by with_unfolding_all rfl) ?_)
  refine W.new fun l2 τ hl2 L hf hnτ => ?_
  refine W.call first6_w fun r hr => ?_
  obtain ⟨r, τ2⟩ := r; obtain ⟨hr, L2⟩ := hr; dsimp only at hr L2 ⊢; subst hr
  replace L := L.mono L2
  replace hf := hf.mono L2
  have hnx := L2.next
  repeat' (first | (with_reducible (first | refine W.bind ?_ | refine W.ldGL (by assumption) (Nat.le_of_ble_eq_true (by with_unfolding_all rfl)) ?_)) | (with_reducible refine W.condF ?_ ?_; focus (first | (simp only [q1, q2, q3, q4, q5, q6, q7, q8, q9, q10, q11, q12, q13, q14, q15, q16, q17, q18, q19, q20, q21, q22, q23, q24, q25, q26, q27, q28, q29, q30]; done) | (simp only [q1, q2, q3, q4, q5, q6, q7, q8, q9, q10, q11, q12, q13, q14, q15, q16, q17, q18, q19, q20, q21, q22, q23, q24, q25, q26, q27, q28, q29, q30]; omega) | assumption)))
  refine W.mono (light_w (vars := vars) (hb.mono L) (hcs.mono L) h1 h2 h3 h4) fun r hr => ?_
  obtain ⟨b, τ3⟩ := r
  obtain ⟨L3, hl⟩ := hr
  dsimp only at L3 hl ⊢
  replace L := L.mono L3
  replace hf := hf.mono L3
  have hnx := L3.next
  cases b with
  | false =>
    repeat' (first | (with_reducible refine W.ret ?_) | (with_reducible refine W.condT ?_ ?_; focus (first | (simp only [q1, q2, q3, q4, q5, q6, q7, q8, q9, q10, q11, q12, q13, q14, q15, q16, q17, q18, q19, q20, q21, q22, q23, q24, q25, q26, q27, q28, q29, q30]; done) | (simp only [q1, q2, q3, q4, q5, q6, q7, q8, q9, q10, q11, q12, q13, q14, q15, q16, q17, q18, q19, q20, q21, q22, q23, q24, q25, q26, q27, q28, q29, q30]; omega) | assumption)))
    rfl
  | true =>
    obtain ⟨c1, c2, c3, c4, c5⟩ := hl rfl
    have ht : total bs ≤ 240 := by have := total_le c5; omega
    repeat' (first | (with_reducible (first | refine W.bind ?_ | refine W.ldGL (by assumption) (Nat.le_of_ble_eq_true (by with_unfolding_all rfl)) ?_)) | (with_reducible refine W.condF ?_ ?_; focus (first | (simp only [q1, q2, q3, q4, q5, q6, q7, q8, q9, q10, q11, q12, q13, q14, q15, q16, q17, q18, q19, q20, q21, q22, q23, q24, q25, q26, q27, q28, q29, q30]; done) | (simp only [q1, q2, q3, q4, q5, q6, q7, q8, q9, q10, q11, q12, q13, q14, q15, q16, q17, q18, q19, q20, q21, q22, q23, q24, q25, q26, q27, q28, q29, q30]; omega) | assumption)))
    refine W.mono (norm_w (vars := vars) ((hg.sub (by decide)).mono L) (hb.mono L) (hcs.mono L) (by omega) (by omega) (by omega) (by omega) c4) fun r hr => ?_
    obtain ⟨⟨ga, ge⟩, τ4⟩ := r
    obtain ⟨L4, hF, us, hus, hG⟩ := hr
    dsimp only at L4 hF hus hG ⊢
    subst hus
    replace L := L.mono L4
    replace hf := hf.mono L4
    have hnx := L4.next
    obtain ⟨go, gi, gc, eg, g1, g2, g3⟩ := hG
    subst eg
    refine W.new fun l9 τ5 hl9 L5 h9 hnτ5 => ?_
    replace hf := hf.mono L5
    have hnx := L5.next
    repeat' (with_reducible refine W.aggK (by with_unfolding_all rfl) ?_)
    refine W.st0 h9 (by rfl) fun τ6 L6 hnτ6 h9 => ?_
    have L46 : Hle τ4 τ6 := L5.ofk (by omega) L6
    replace hf := (hf.kill (by omega)).mono L6
    replace L := L.mono L46
    replace hF := hF.mono L46
    replace g1 := g1.mono L46
    replace g2 := g2.mono L46
    replace g3 := g3.mono L46
    have hnx := L46.next
    repeat' (with_reducible (first | refine W.bind ?_ | refine W.ldGL (by assumption) (Nat.le_of_ble_eq_true (by with_unfolding_all rfl)) ?_))
    refine W.mono (refNorm_w (vars := vars) (hb.mono L) (hcs.mono L) (by omega) (by omega) (by omega) (by omega) c4) fun r hr => ?_
    obtain ⟨⟨xa, xe⟩, τ7⟩ := r
    obtain ⟨L7, hx, us, hus, hG⟩ := hr
    dsimp only at L7 hx hus hG ⊢
    subst hus hx
    obtain ⟨ho, hi, hc, eh, k1, k2, k3⟩ := hG
    subst eh
    replace L := L.mono L7
    replace hf := hf.mono L7
    replace hF := hF.mono L7
    replace g1 := g1.mono L7
    replace g2 := g2.mono L7
    replace g3 := g3.mono L7
    replace h9 := h9.mono L7
    have hnx := L7.next
    have L70 := L
    refine W.new fun l15 τ8 hl15 L8 h15 hnτ8 => ?_
    refine W.new fun l17 τ9 hl17 L9 h17 hnτ9 => ?_
    have L79 := L8.mono L9
    replace h15 := h15.mono L9
    have hnx := L9.next
    replace hf := hf.mono L79
    replace h9 := h9.mono L79
    have hnx := L79.next
    repeat' (with_reducible refine W.aggK (by with_unfolding_all rfl) ?_)
    refine W.st0 h15 (by rfl) fun τA LA hnτA h15 => ?_
    replace hf := (hf.kill (by omega)).mono LA
    replace h9 := (h9.kill (by omega)).mono LA
    replace h17 := (h17.kill (by omega)).mono LA
    obtain ⟨ca, cb, cc, ec⟩ := fcells_eq (normF bs vars cs)
    rw [ec]
    repeat' (with_reducible refine W.aggK (by with_unfolding_all rfl) ?_)
    refine W.st0 h17 (by rfl) fun τB LB hnτB h17 => ?_
    replace hf := (hf.kill (by omega)).mono LB
    replace h9 := (h9.kill (by omega)).mono LB
    replace h15 := (h15.kill (by omega)).mono LB
    have L7B : Hle τ7 τB := (L79.ofk (by omega) LA).ofk (by omega) LB
    replace L := L.mono L7B
    replace hF := hF.mono L7B
    replace g1 := g1.mono L7B
    replace g2 := g2.mono L7B
    replace g3 := g3.mono L7B
    replace k1 := k1.mono L7B
    replace k2 := k2.mono L7B
    replace k3 := k3.mono L7B
    have hnx := L7B.next
    have hn := normG_ok (bs := bs) (vars := vars) (cs := cs)
    have hat : total (allB bs cs) ≤ 600 := by
      have := free_len bs cs
      rw [allB, merge_total]
      simp only [total, List.map_cons, List.sum_cons] at ht ⊢; omega
    repeat' (first | (with_reducible (first | refine W.bind ?_ | refine W.ldGL (by assumption) (Nat.le_of_ble_eq_true (by with_unfolding_all rfl)) ?_)) | (with_reducible refine W.condT ?_ ?_; focus (first | (simp only [q1, q2, q3, q4, q5, q6, q7, q8, q9, q10, q11, q12, q13, q14, q15, q16, q17, q18, q19, q20, q21, q22, q23, q24, q25, q26, q27, q28, q29, q30]; done) | (simp only [q1, q2, q3, q4, q5, q6, q7, q8, q9, q10, q11, q12, q13, q14, q15, q16, q17, q18, q19, q20, q21, q22, q23, q24, q25, q26, q27, q28, q29, q30]; omega) | assumption)))
    refine W.mono (sameGame_w g1 k1 g2 k2 g3 k3 (by omega) (by omega) (by rcases hn.2.2 with e | e <;> rw [e] <;> first | (simp; done) | omega) (fun a ha => by
      rcases hn.2.2 with e | e
      · rw [e] at ha; cases ha
      · rw [e] at ha; have := flat_mem ha; omega)) fun r hr => ?_
    obtain ⟨r, τC⟩ := r; obtain ⟨hr, LC⟩ := hr; dsimp only at hr LC ⊢; subst hr
    replace L := L.mono LC
    replace hF := hF.mono LC
    replace hf := hf.mono LC
    replace h17 := h17.mono LC
    have hnx := LC.next
    rw [decide_eq_true ⟨rfl, rfl, rfl, rfl⟩]
    repeat' (first | (with_reducible (first | refine W.bind ?_ | refine W.ldGL (by assumption) (Nat.le_of_ble_eq_true (by with_unfolding_all rfl)) ?_)) | (with_reducible refine W.condT ?_ ?_; focus (first | (simp only [q1, q2, q3, q4, q5, q6, q7, q8, q9, q10, q11, q12, q13, q14, q15, q16, q17, q18, q19, q20, q21, q22, q23, q24, q25, q26, q27, q28, q29, q30]; done) | (simp only [q1, q2, q3, q4, q5, q6, q7, q8, q9, q10, q11, q12, q13, q14, q15, q16, q17, q18, q19, q20, q21, q22, q23, q24, q25, q26, q27, q28, q29, q30]; omega) | assumption)))
    show W (S.skolemsee_Same ge (.agg [.int .i64 ca, .bool cb, .int .i64 cc]) τC) _
    rw [← ec]
    refine W.mono (see_w (hg.mono L) hF) fun r hr => ?_
    obtain ⟨r, τD⟩ := r; obtain ⟨hr, LD⟩ := hr; dsimp only at hr LD ⊢; subst hr
    replace L := L.mono LD
    replace hf := hf.mono LD
    have hnx := LD.next
    rw [decide_eq_true rfl]
    repeat' (first | (with_reducible (first | refine W.bind ?_ | refine W.ldGL (by assumption) (Nat.le_of_ble_eq_true (by with_unfolding_all rfl)) ?_)) | (with_reducible refine W.condT ?_ ?_; focus (first | (simp only [q1, q2, q3, q4, q5, q6, q7, q8, q9, q10, q11, q12, q13, q14, q15, q16, q17, q18, q19, q20, q21, q22, q23, q24, q25, q26, q27, q28, q29, q30]; done) | (simp only [q1, q2, q3, q4, q5, q6, q7, q8, q9, q10, q11, q12, q13, q14, q15, q16, q17, q18, q19, q20, q21, q22, q23, q24, q25, q26, q27, q28, q29, q30]; omega) | assumption)))
    refine W.mono (free_w (n := vars) (hb.mono L) (hcs.mono L) (by omega) (by omega) (by omega) (fun b hb => by have := c5 b hb; omega) c4) fun r hr => ?_
    obtain ⟨z, τE⟩ := r
    obtain ⟨LE, hz⟩ := hr
    dsimp only at LE hz ⊢
    have hfD := hf
    replace L := L.mono LE
    replace hf := hf.mono LE
    have hnx := LE.next
    repeat' (with_reducible (first | refine W.bind ?_ | refine W.chk rfl ?_ | refine W.ldGL (by assumption) (Nat.le_of_ble_eq_true (by with_unfolding_all rfl)) ?_))
    refine W.mono (refFree_w (n := vars) (hb.mono L) (hcs.mono L) (by omega) (by omega) (by omega) (by rw [← total_vars]; omega) c4) fun r hr => ?_
    obtain ⟨z2, τF⟩ := r
    obtain ⟨LF, hz2⟩ := hr
    dsimp only at LF hz2 ⊢
    replace L := L.mono LF
    replace hf := hf.mono LF
    replace hz := hz.mono LF
    have hnx := LF.next
    repeat' (with_reducible refine W.bind ?_)
    refine W.to (sameInts_eq hz.sl hz2.sl (by have := free_len bs cs; omega)) ?_
    rw [decide_eq_true rfl]
    repeat' (first | (with_reducible (first | refine W.ret ?_ | refine W.bind ?_ | refine W.asV ?_ | refine W.ldL (by assumption) (by with_unfolding_all rfl) ?_)) | (with_reducible refine W.condT ?_ ?_; focus (first | (simp only [q1, q2, q3, q4, q5, q6, q7, q8, q9, q10, q11, q12, q13, q14, q15, q16, q17, q18, q19, q20, q21, q22, q23, q24, q25, q26, q27, q28, q29, q30]; done) | (simp only [q1, q2, q3, q4, q5, q6, q7, q8, q9, q10, q11, q12, q13, q14, q15, q16, q17, q18, q19, q20, q21, q22, q23, q24, q25, q26, q27, q28, q29, q30]; omega) | assumption)))
    refine W.mono (merge_w (hb.mono L) (by omega) (by omega)) fun r hr => ?_
    obtain ⟨m, τG⟩ := r
    obtain ⟨LG, hm⟩ := hr
    dsimp only at LG hm ⊢
    have hfF := hf
    replace L := L.mono LG
    replace hf := hf.mono LG
    have hnx := LG.next
    repeat' (with_reducible (first | refine W.bind ?_ | refine W.asV ?_ | refine W.chk rfl ?_ | refine W.ldL (by assumption) (by with_unfolding_all rfl) ?_))
    refine W.mono (refMerge_w (hb.mono L) (by omega) (by omega)) fun r hr => ?_
    obtain ⟨m2, τH⟩ := r
    obtain ⟨LH, hm2⟩ := hr
    dsimp only at LH hm2 ⊢
    replace hm := hm.mono LH
    have hnx := LH.next
    have g2' := (foldl_merge bs []).2
    obtain ⟨τI, eI, _⟩ := sameBlocks_eq hm.sl.ofBF hm2.sl.ofBF (by have : (merge bs).length ≤ 0 + bs.length := g2'; omega) (fun a ha => by have := total_mem ha; rw [merge_total] at this; omega)
    refine W.eqn eI ?_
    rw [decide_eq_true rfl]
    repeat' (with_reducible refine W.ret ?_)
    rfl
end Go.Proofs.YtgneblbblihaoaaDoor.A

/- PrefixFree, as0 plain law. -/
namespace Go.Proofs.YtgneblbblihaoaaDoor.A
open Go

theorem scanV_all {vars : Int} : ∀ {vs seen : List Int}, (∀ v ∈ vs, 1 ≤ v ∧ v ≤ vars) → vs.Nodup → (∀ v ∈ vs, v ∉ seen) → scanV vars seen vs = some (seen ++ vs)
  | [], seen, _, _, _ => by simp [scanV]
  | v :: vs, seen, h1, h2, h3 => by
    have hv := h1 v (by simp)
    have hs := h3 v (by simp)
    have h2' := List.nodup_cons.1 h2
    rw [scanV, if_neg (by intro h; rcases h with h | h | h; omega; omega; exact hs h)]
    rw [scanV_all (fun u hu => h1 u (List.mem_cons_of_mem _ hu)) h2'.2 (fun u hu => by
      simp only [List.mem_append, List.mem_singleton, not_or]
      exact ⟨h3 u (List.mem_cons_of_mem _ hu), fun e => h2'.1 (e ▸ hu)⟩)]
    simp

section
variable {l : List Int} {first free : Int} {ex : Bool}
theorem chkC_of (l : List Int) {n : Nat} (hn : n ≤ 4000) (hl : l.length ≤ 20000) : chkC (n : Int) (clausesOf l n) = none := by
  obtain ⟨h1, h2, h3⟩ := clausesOf_ok l n
  unfold chkC
  rw [if_neg (by omega)]
  have : (clausesOf l n).findIdx? (badC n) = none := by
    rw [List.findIdx?_eq_none_iff]
    intro c hc
    refine List.any_eq_false.2 fun x hx => ?_
    obtain ⟨a, b, c⟩ := (h1 c hc).2.2 x hx
    simp [isL_iff.2 ⟨a, b, c⟩]
  rw [this]; rfl
theorem part_mem {n : Nat} {v : Int} : (v ∈ partA n first ex free ↔ (1 ≤ v ∧ v ≤ n) ∧ ¬ (ex = true ∧ v ≤ free) ∧ v ≤ first) ∧ (v ∈ partB n first ex free ↔ (1 ≤ v ∧ v ≤ n) ∧ ¬ (ex = true ∧ v ≤ free) ∧ ¬ v ≤ first) := by
  unfold partA partB
  rw [List.mem_filter, List.mem_filter, upTo_mem]
  cases ex <;> simp
theorem part_nodup (n : Nat) : (partA n first ex free).Nodup ∧ (partB n first ex free).Nodup := by
  have := (upTo_rising n).imp (S := (· ≠ ·)) fun {a b} h => by omega
  exact ⟨this.filter _, this.filter _⟩
theorem chkF_of {n : Nat} (hn : n ≤ 4000) (hl : l.length ≤ 20000) : chkF [(ex, partA n first ex free), (!ex, partB n first ex free)] n (clausesOf l n) = none := by
  unfold chkF
  rw [chkC_of l hn hl]
  simp only [chkB]
  rw [scanV_all (fun v hv => (part_mem.1.1 hv).1) (part_nodup n).1 (by simp)]
  simp only [List.nil_append]
  rw [scanV_all (fun v hv => (part_mem.2.1 hv).1) (part_nodup n).2 (fun v hv h => (part_mem.2.1 hv).2.2 (part_mem.1.1 h).2.2)]

theorem mergeB2 (F A : List Int) (k : Bool) : mergeB (mergeB [] (k, F)) (k, A) = if F ++ A = [] then [] else [(k, F ++ A)] := by
  unfold mergeB
  by_cases hF : F = []
  · subst hF
    by_cases hA : A = []
    · simp [hA]
    · simp [hA]
  · by_cases hA : A = []
    · simp [hF, hA]
    · simp [hF, hA]
theorem normF_of {n : Nat} (hn : n ≤ 4000) (hl : l.length ≤ 20000) : normF [(ex, partA n first ex free), (!ex, partB n first ex free)] n (clausesOf l n) = none ∧
    ∀ v ∈ A.free [(ex, partA n first ex free), (!ex, partB n first ex free)] (clausesOf l n), (normG [(ex, partA n first ex free), (!ex, partB n first ex free)] n (clausesOf l n)).1 = true ∧ v ∈ (normG [(ex, partA n first ex free), (!ex, partB n first ex free)] n (clausesOf l n)).2.1 := by
  unfold normF normG
  rw [chkF_of hn hl]
  simp only []
  have hfm := free_mem [(ex, partA n first ex free), (!ex, partB n first ex free)] (clausesOf l n)
  have hA := @part_mem first free ex n
  generalize hFF : A.free [(ex, partA n first ex free), (!ex, partB n first ex free)] (clausesOf l n) = F at *
  generalize partA n first ex free = As at *
  generalize partB n first ex free = Bs at *
  have hM : allB [(ex, As), (!ex, Bs)] (clausesOf l n) = mergeB (mergeB (mergeB [] (true, F)) (ex, As)) (!ex, Bs) := by
    unfold allB; rw [hFF]; rfl
  rw [hM]
  cases ex with
  | true =>
    rw [mergeB2]
    by_cases he : F ++ As = []
    · rw [if_pos he]
      have hF : F = [] := (List.append_eq_nil_iff.1 he).1
      have h2 := mergeB_len [] (!true, Bs)
      refine ⟨if_pos (by simp at h2 ⊢; omega), fun v hv => ?_⟩
      rw [hF] at hv; cases hv
    · rw [if_neg he]
      have h2 := mergeB_len [(true, F ++ As)] (!true, Bs)
      refine ⟨if_pos (by simp at h2 ⊢; omega), fun v hv => ?_⟩
      by_cases hB : Bs = []
      · subst hB
        have : mergeB [(true, F ++ As)] (!true, []) = [(true, F ++ As)] := by simp [mergeB]
        rw [this]
        exact ⟨rfl, List.mem_append.2 (.inl hv)⟩
      · have : mergeB [(true, F ++ As)] (!true, Bs) = [(true, F ++ As), (false, Bs)] := by simp [mergeB, hB]
        rw [this]
        exact ⟨rfl, List.mem_append.2 (.inl hv)⟩
  | false =>
    have hF : F = [] := by
      refine List.eq_nil_iff_forall_not_mem.2 fun v hv => ?_
      obtain ⟨⟨c, hc, x, hx, e⟩, h2⟩ := (hfm v).1 hv
      obtain ⟨a, b, c'⟩ := ((clausesOf_ok l n).1 c hc).2.2 x hx
      refine h2 (vars_mem.2 ?_)
      by_cases hle : v ≤ first
      · exact ⟨(false, As), by simp, (hA (v := v)).1.2 ⟨by omega, by simp, hle⟩⟩
      · exact ⟨(true, Bs), by simp, (hA (v := v)).2.2 ⟨by omega, by simp, hle⟩⟩
    rw [hF]
    have h0 : mergeB [] (true, []) = [] := by simp [mergeB]
    rw [h0]
    have h1 := mergeB_len [] (false, As)
    have h2 := mergeB_len (mergeB [] (false, As)) (!false, Bs)
    refine ⟨if_pos (by simp at h1; omega), fun v hv => by cases hv⟩
end

theorem neg_eq {p : Int} (h0 : -9223372036854775808 ≤ p) (h1 : p ≤ 9223372036854775807) : W (cond (decide (p < 0)) (some (IntKind.i64.wrap (0 - (IntKind.i64.wrap (p + 1))))) (some p)) fun r => 0 ≤ r ∧ r ≤ 9223372036854775807 := by
  (with_reducible refine W.cnd (fun hc => ?_) (fun hc => ?_) <;> (try simp only [q1, q2, q3, q4, q5, q6, q7, q8, q9, q10, q11, q12, q13, q14, q15, q16, q17, q18, q19, q20, q21, q22, q23, q24, q25, q26, q27, q28, q29, q30, Kd.ty] at hc) <;> (try (exfalso; omega)))
  · repeat' (with_reducible refine W.ret ?_)
    have w : IntKind.i64.wrap (p + 1) = p + 1 := by rw [wrapS] <;> omega
    rw [w, wrapS] <;> omega
  · repeat' (with_reducible refine W.ret ?_)
    omega

theorem freeLaw_plain {σ : Heap} {l : List Int} {x : AVal} {p1 p3 : Int} {ex : Bool} (hg : GlS [.limit, .range, .blocks] σ) (hx : SlV .int σ l x) (hp1 : -9223372036854775808 ≤ p1 ∧ p1 ≤ 9223372036854775807) (hp3 : -9223372036854775808 ≤ p3 ∧ p3 ≤ 9223372036854775807) :
    W (S.skolemlaw6_PrefixFree x p1 ex p3 σ) fun r => r.1 = true := by
  unfold S.skolemlaw6_PrefixFree
  refine W.call first6_w fun r hr => ?_
  obtain ⟨r, τ1⟩ := r; obtain ⟨hr, L⟩ := hr; dsimp only at hr L ⊢; subst hr
  have hx1 := hx.mono L
  repeat' (first | (with_reducible refine W.len (by assumption) ?_) | (with_reducible refine W.condF ?_ ?_; focus (first | (simp only [q1, q2, q3, q4, q5, q6, q7, q8, q9, q10, q11, q12, q13, q14, q15, q16, q17, q18, q19, q20, q21, q22, q23, q24, q25, q26, q27, q28, q29, q30, Kd.ty]; done) | (simp only [q1, q2, q3, q4, q5, q6, q7, q8, q9, q10, q11, q12, q13, q14, q15, q16, q17, q18, q19, q20, q21, q22, q23, q24, q25, q26, q27, q28, q29, q30, Kd.ty]; omega) | assumption)))
  (with_reducible refine W.cnd (fun hc => ?_) (fun hc => ?_) <;> (try simp only [q1, q2, q3, q4, q5, q6, q7, q8, q9, q10, q11, q12, q13, q14, q15, q16, q17, q18, q19, q20, q21, q22, q23, q24, q25, q26, q27, q28, q29, q30, Kd.ty] at hc) <;> (try (exfalso; omega)))
  · repeat' (with_reducible refine W.ret ?_)
    rfl
  repeat' (with_reducible refine W.bind ?_)
  refine W.mono (neg_eq hp1.1 hp1.2) fun r3 h3 => ?_
  repeat' (with_reducible refine W.bind ?_)
  refine W.mono (neg_eq hp3.1 hp3.2) fun r4 h4 => ?_
  repeat' (with_reducible refine W.bind ?_)
  have hll : l.length ≤ 60 := by omega
  generalize Int.tmod r3 10 = first
  generalize Int.tmod r4 4 = free
  refine W.mono (formula_w (n := 9) (first := first) (free := free) (ex := ex) hx1 (by omega) (by omega)) fun r hr => ?_
  obtain ⟨r, τ2⟩ := r
  obtain ⟨L2, u, y, e, hU, hY⟩ := hr
  dsimp only at L2 e hU hY ⊢
  subst e
  replace L := L.mono L2
  have hnx := L2.next
  obtain ⟨hF1, hF2⟩ := normF_of (l := l) (first := first) (free := free) (ex := ex) (n := 9) (by omega) (by omega)
  obtain ⟨hcl1, hcl2, hcl3⟩ := clausesOf_ok l ((9 : Nat) : Int)
  have hla := partA_len 9 first ex free
  have hlb := partB_len 9 first ex free
  have hbs : total [(ex, partA 9 first ex free), (!ex, partB 9 first ex free)] ≤ 18 := by simp [total]; omega
  have hfm := free_mem [(ex, partA 9 first ex free), (!ex, partB 9 first ex free)] (clausesOf l ((9 : Nat) : Int))
  have hfr := free_rising [(ex, partA 9 first ex free), (!ex, partB 9 first ex free)] (clausesOf l ((9 : Nat) : Int))
  have hfl := free_len [(ex, partA 9 first ex free), (!ex, partB 9 first ex free)] (clausesOf l ((9 : Nat) : Int))
  have hbl : ∀ b ∈ [(ex, partA 9 first ex free), (!ex, partB 9 first ex free)], b.2.length ≤ 9 := fun b hb => by
    simp at hb; rcases hb with rfl | rfl <;> omega
  generalize hbse : [(ex, partA 9 first ex free), (!ex, partB 9 first ex free)] = bs at *
  generalize hcse : clausesOf l ((9 : Nat) : Int) = cs at *
  have hbn : bs.length = 2 := by rw [← hbse]; rfl
  have hnr : ∀ c ∈ cs, Nears c := fun c hc z hz => by have := (hcl1 c hc).2.2 z hz; omega
  refine W.new fun l6 τ3 hl6 L3 h6 hnτ3 => ?_
  repeat' (with_reducible refine W.aggK (by with_unfolding_all rfl) ?_)
  refine W.st0 h6 (by rfl) fun τ4 L4 hnτ4 h6 => ?_
  have L24 : Hle τ2 τ4 := L3.ofk (by omega) L4
  replace L := L.mono L24
  replace hU := hU.mono L24
  replace hY := hY.mono L24
  have hnx := L24.next
  repeat' (with_reducible (first | refine W.bind ?_ | refine W.ldGL (by assumption) (Nat.le_of_ble_eq_true (by with_unfolding_all rfl)) ?_))
  refine W.mono (free_w (n := ((9 : Nat) : Int)) hU hY (by omega) (by omega) (by omega) (fun b hb => by have := hbl b hb; omega) hnr) fun r hr => ?_
  obtain ⟨z, τ5⟩ := r
  obtain ⟨L5, hz⟩ := hr
  dsimp only at L5 hz ⊢
  replace L := L.mono L5
  replace hU := hU.mono L5
  replace hY := hY.mono L5
  replace h6 := h6.mono L5
  have hnx := L5.next
  repeat' (with_reducible (first | refine W.bind ?_ | refine W.ldGL (by assumption) (Nat.le_of_ble_eq_true (by with_unfolding_all rfl)) ?_))
  refine W.mono (norm_w (vars := ((9 : Nat) : Int)) (hg.mono L) hU hY (by omega) (by omega) (by omega) (by omega) hnr) fun r hr => ?_
  obtain ⟨⟨ga, ge⟩, τ6⟩ := r
  obtain ⟨L6, hF, us, hus, hG⟩ := hr
  dsimp only at L6 hF hus hG ⊢
  subst hus
  rw [hF1] at hF
  have hF : ge = .nili := hF
  subst hF
  obtain ⟨go, gi, gc, eg, g1, g2, g3⟩ := hG
  subst eg
  replace L := L.mono L6
  replace hU := hU.mono L6
  replace h6 := h6.mono L6
  replace hz := hz.mono L6
  have hnx := L6.next
  refine W.new fun l14 τ7 hl14 L7 h14 hnτ7 => ?_
  repeat' (with_reducible refine W.aggK (by with_unfolding_all rfl) ?_)
  refine W.st0 h14 (by rfl) fun τ8 L8 hnτ8 h14 => ?_
  have L68 : Hle τ6 τ8 := L7.ofk (by omega) L8
  replace hU := hU.mono L68
  replace h6 := h6.mono L68
  replace hz := hz.mono L68
  replace g1 := g1.mono L68
  have hnx := L68.next
  have hzl := hz.sl
  repeat' (with_reducible refine W.bind ?_)
  refine W.loopP (A.free bs cs).length (fun i y => y = (i : Int)) rfl fun i y hi hI => ?_
  subst hI
  unfold S.skolemlaw6_PrefixFree.b1
  repeat' (with_reducible refine W.len (by assumption) ?_)
  (with_reducible refine W.cnd (fun hc => ?_) (fun hc => ?_) <;> (try simp only [q1, q2, q3, q4, q5, q6, q7, q8, q9, q10, q11, q12, q13, q14, q15, q16, q17, q18, q19, q20, q21, q22, q23, q24, q25, q26, q27, q28, q29, q30, Kd.ty] at hc) <;> (try (exfalso; omega)))
  · obtain ⟨v, hv⟩ : ∃ v, (A.free bs cs)[i]? = some v := ⟨_, List.getElem?_eq_getElem (by omega)⟩
    have hvm := List.mem_of_getElem? hv
    have hris : W (cond (decide ((i : Int) > 0)) (ixA τ8 z 1 (i : Int) fun a26 => ld τ8 a26 (.I .i64) fun n27 => ixA τ8 z 1 (IntKind.i64.wrap ((i : Int) - 1)) fun a28 => ld τ8 a28 (.I .i64) fun n29 => some (decide (n27 ≤ n29))) (some false)) fun r => r = false := by
      (with_reducible refine W.cnd (fun hc => ?_) (fun hc => ?_) <;> (try simp only [q1, q2, q3, q4, q5, q6, q7, q8, q9, q10, q11, q12, q13, q14, q15, q16, q17, q18, q19, q20, q21, q22, q23, q24, q25, q26, q27, q28, q29, q30, Kd.ty] at hc) <;> (try (exfalso; omega)))
      · repeat' (with_reducible refine W.ixIc (by assumption) (by assumption) ?_)
        have w : IntKind.i64.wrap ((i : Int) - 1) = ((i - 1 : Nat) : Int) := by rw [wrapS] <;> omega
        rw [w]
        refine W.ixInc hzl (by omega) fun v' hv' => ?_
        repeat' (with_reducible refine W.ret ?_)
        obtain ⟨q1, q2⟩ := List.getElem?_eq_some_iff.1 hv
        obtain ⟨q3, q4⟩ := List.getElem?_eq_some_iff.1 hv'
        have := List.pairwise_iff_getElem.1 hfr (i - 1) i q3 q1 (by omega)
        rw [q2, q4] at this
        simp; omega
      · repeat' (with_reducible refine W.ret ?_)
        rfl
    repeat' (with_reducible refine W.bind ?_)
    refine W.mono hris fun r hr => ?_
    subst hr
    repeat' (first | (with_reducible refine W.bind ?_) | (with_reducible refine W.condF ?_ ?_; focus (first | (simp only [q1, q2, q3, q4, q5, q6, q7, q8, q9, q10, q11, q12, q13, q14, q15, q16, q17, q18, q19, q20, q21, q22, q23, q24, q25, q26, q27, q28, q29, q30, Kd.ty]; done) | (simp only [q1, q2, q3, q4, q5, q6, q7, q8, q9, q10, q11, q12, q13, q14, q15, q16, q17, q18, q19, q20, q21, q22, q23, q24, q25, q26, q27, q28, q29, q30, Kd.ty]; omega) | assumption)))
    have key : W (loopP (S.skolemlaw6_PrefixFree.b0 true (.ptr l6 0) z (.ptr l14 0) .nili (i : Int) τ8) 0) fun r => r = .inl () := by
      refine W.loopP bs.length (fun k y => y = (k : Int)) rfl fun k y hk hI => ?_
      subst hI
      unfold S.skolemlaw6_PrefixFree.b0
      repeat' (with_reducible (first | refine W.asV ?_ | refine W.fldp ?_ | refine W.len (by assumption) ?_ | refine W.ldL (by assumption) (by with_unfolding_all rfl) ?_))
      (with_reducible refine W.cnd (fun hc => ?_) (fun hc => ?_) <;> (try simp only [q1, q2, q3, q4, q5, q6, q7, q8, q9, q10, q11, q12, q13, q14, q15, q16, q17, q18, q19, q20, q21, q22, q23, q24, q25, q26, q27, q28, q29, q30, Kd.ty] at hc) <;> (try (exfalso; omega)))
      · repeat' (with_reducible (first | refine W.asV ?_ | refine W.fldp ?_ | refine W.ldL (by assumption) (by with_unfolding_all rfl) ?_))
        refine W.ixc hU (by omega) fun p us b hb hp hr => ?_
        obtain ⟨w, rfl, hw⟩ := vB_rel hr
        repeat' (with_reducible (first | refine W.bind ?_ | refine W.asV ?_ | refine W.fldld (by assumption) (by with_unfolding_all rfl) ?_ | refine W.ixIc (by assumption) (by assumption) ?_))
        refine W.to (has_eq hw (by have := hbl b (List.mem_of_getElem? hb); omega)) ?_
        repeat' (with_reducible refine W.ret ?_)
        have : v ∉ b.2 := fun h => ((hfm v).1 hvm).2 (vars_mem.2 ⟨b, List.mem_of_getElem? hb, h⟩)
        rw [decide_eq_false this]
        repeat' (first | (with_reducible refine W.nextP ?_) | (with_reducible refine W.condF ?_ ?_; focus (first | (simp only [q1, q2, q3, q4, q5, q6, q7, q8, q9, q10, q11, q12, q13, q14, q15, q16, q17, q18, q19, q20, q21, q22, q23, q24, q25, q26, q27, q28, q29, q30, Kd.ty]; done) | (simp only [q1, q2, q3, q4, q5, q6, q7, q8, q9, q10, q11, q12, q13, q14, q15, q16, q17, q18, q19, q20, q21, q22, q23, q24, q25, q26, q27, q28, q29, q30, Kd.ty]; omega) | assumption)))
        exact ⟨by omega, sk⟩
      · repeat' (with_reducible refine W.stopP ?_)
        rfl
    refine W.mono key fun r hr => ?_
    subst hr
    obtain ⟨q1, q2⟩ := hF2 v hvm
    have hgl := normG_ok (bs := bs) (vars := ((9 : Nat) : Int)) (cs := cs)
    have hat : total (allB bs cs) ≤ 600 := by
      rw [allB, merge_total]
      simp only [total, List.map_cons, List.sum_cons] at hbs ⊢; omega
    rw [q1] at h14
    repeat' (first | (with_reducible (first | refine W.bind ?_ | refine W.asB ?_ | refine W.asV ?_ | refine W.fldp ?_ | refine W.ldL (by assumption) (by with_unfolding_all rfl) ?_ | refine W.ixIc (by assumption) (by assumption) ?_ | refine W.nnil ?_)) | (with_reducible refine W.condT ?_ ?_; focus (first | (simp only [q1, q2, q3, q4, q5, q6, q7, q8, q9, q10, q11, q12, q13, q14, q15, q16, q17, q18, q19, q20, q21, q22, q23, q24, q25, q26, q27, q28, q29, q30, Kd.ty]; done) | (simp only [q1, q2, q3, q4, q5, q6, q7, q8, q9, q10, q11, q12, q13, q14, q15, q16, q17, q18, q19, q20, q21, q22, q23, q24, q25, q26, q27, q28, q29, q30, Kd.ty]; omega) | assumption)) | (with_reducible refine W.condF ?_ ?_; focus (first | (simp only [q1, q2, q3, q4, q5, q6, q7, q8, q9, q10, q11, q12, q13, q14, q15, q16, q17, q18, q19, q20, q21, q22, q23, q24, q25, q26, q27, q28, q29, q30, Kd.ty]; done) | (simp only [q1, q2, q3, q4, q5, q6, q7, q8, q9, q10, q11, q12, q13, q14, q15, q16, q17, q18, q19, q20, q21, q22, q23, q24, q25, q26, q27, q28, q29, q30, Kd.ty]; omega) | assumption)))
    refine W.to (has_eq g1 (by omega)) ?_
    repeat' (with_reducible refine W.ret ?_)
    rw [decide_eq_true q2]
    repeat' (first | (with_reducible refine W.nextP ?_) | (with_reducible refine W.condF ?_ ?_; focus (first | (simp only [q1, q2, q3, q4, q5, q6, q7, q8, q9, q10, q11, q12, q13, q14, q15, q16, q17, q18, q19, q20, q21, q22, q23, q24, q25, q26, q27, q28, q29, q30, Kd.ty]; done) | (simp only [q1, q2, q3, q4, q5, q6, q7, q8, q9, q10, q11, q12, q13, q14, q15, q16, q17, q18, q19, q20, q21, q22, q23, q24, q25, q26, q27, q28, q29, q30, Kd.ty]; omega) | assumption)))
    exact ⟨by omega, sk⟩
  · repeat' (first | (with_reducible (first | refine W.stopP ?_ | refine W.ret ?_ | refine W.bind ?_ | refine W.nnil ?_)) | (with_reducible refine W.condT ?_ ?_; focus (first | (simp only [q1, q2, q3, q4, q5, q6, q7, q8, q9, q10, q11, q12, q13, q14, q15, q16, q17, q18, q19, q20, q21, q22, q23, q24, q25, q26, q27, q28, q29, q30, Kd.ty]; done) | (simp only [q1, q2, q3, q4, q5, q6, q7, q8, q9, q10, q11, q12, q13, q14, q15, q16, q17, q18, q19, q20, q21, q22, q23, q24, q25, q26, q27, q28, q29, q30, Kd.ty]; omega) | assumption)))
    rfl
end Go.Proofs.YtgneblbblihaoaaDoor.A

/- PrefixBlocks, as0 plain law. -/
namespace Go.Proofs.YtgneblbblihaoaaDoor.A
open Go

def seg (v n : Nat) : List Int := (List.range n).map fun i => ((v + i : Nat) : Int)
theorem seg_succ (v n : Nat) : seg v (n + 1) = seg v n ++ [((v + n : Nat) : Int)] := by simp [seg, List.range_succ]
theorem seg_len (v n : Nat) : (seg v n).length = n := by simp [seg]
def blks (k : Bool) (a b c : Nat) : List (Bool × List Int) := [(k, seg 1 a), (!k, seg (1 + a) b), (k, seg (1 + a + b) c)]

theorem free_nil2 (bs : List (Bool × List Int)) : A.free bs [] = [] := by
  have := free_len bs []
  exact List.eq_nil_of_length_eq_zero (by simpa using this)
def nF (bs : List (Bool × List Int)) : Flt := match chkF bs 12 [] with
  | some f => some f
  | none => if (merge ((true, []) :: bs)).length ≤ 2 then none else some (.blocks, none)
def nG (bs : List (Bool × List Int)) : Gm := match chkF bs 12 [] with
  | some _ => zeroG
  | none => gameOf (merge ((true, []) :: bs)) []
theorem nF_eq (bs : List (Bool × List Int)) : normF bs 12 [] = nF bs := by unfold normF nF allB; rw [free_nil2]; all_goals (cases chkF bs 12 [] <;> rfl)
theorem nG_eq (bs : List (Bool × List Int)) : normG bs 12 [] = nG bs := by unfold normG nG allB; rw [free_nil2]; all_goals (cases chkF bs 12 [] <;> rfl)
def okB (k : Bool) (a b c : Nat) : Bool :=
  if a > 0 ∧ b > 0 ∧ c > 0 then decide (nF (blks k a b c) = some (.blocks, none)) else
  decide (nF (blks k a b c) = none) && decide ((nG (blks k a b c)).2.1.length + (nG (blks k a b c)).2.2.1.length = a + b + c) &&
  (if b = 0 then decide ((nG (blks k a b c)).2.2.1.length = 0) && decide ((nG (blks k a b c)).1 = (k || decide (a + c = 0)))
   else if a = 0 then decide ((nG (blks k a b c)).1 = !k) && decide ((nG (blks k a b c)).2.1.length = b) && decide ((nG (blks k a b c)).2.2.1.length = c)
   else decide ((nG (blks k a b c)).1 = k) && decide ((nG (blks k a b c)).2.1.length = a) && decide ((nG (blks k a b c)).2.2.1.length = b))
theorem okB_all : ∀ a b c : Fin 4, okB true a b c = true ∧ okB false a b c = true := by decide +kernel
theorem okB_of (k : Bool) {a b c : Nat} (ha : a < 4) (hb : b < 4) (hc : c < 4) : okB k a b c = true := by
  have := okB_all ⟨a, ha⟩ ⟨b, hb⟩ ⟨c, hc⟩
  cases k
  · exact this.2
  · exact this.1

theorem seg_w {σ0 τ : Heap} {l k : Nat} {kd p1 p2 : Bool} {a xs : AVal} {ns : List Int} {n v : Nat} {p3 : AVal} (hx : SlV .int σ0 ns xs) (hn : ns[k]? = some (n : Int)) (hl : Loc τ l [.bool kd, a]) (hA : Acc .int σ0.next τ [] a) (L : Hle σ0 τ) (hlt : l < σ0.next) (hk : Hle σ0 (σ0.kill l)) (hn2 : n ≤ 100) (hv : v ≤ 1000) :
    W (loopW (S.skolemlaw6_PrefixBlocks.b0 p1 p2 xs p3 kd (k : Int) (.ptr l 0)) ((v : Int), 0) τ) fun r => r.1 = ((v + n : Nat) : Int) ∧ Hle σ0 r.2 ∧ ∃ a', Loc r.2 l [.bool kd, a'] ∧ Acc .int σ0.next r.2 (seg v n) a' := by
  refine W.loop n (fun i y τ => y = (((v + i : Nat) : Int), (i : Int)) ∧ Hle σ0 τ ∧ ∃ a, Loc τ l [.bool kd, a] ∧ Acc .int σ0.next τ (seg v i) a) ⟨rfl, L, a, hl, hA⟩ fun i y τ hi hI => ?_
  obtain ⟨rfl, L, a, hl, hA⟩ := hI
  unfold S.skolemlaw6_PrefixBlocks.b0
  dsimp only
  refine W.ixIc (hx.mono L) hn ?_
  (with_reducible refine W.cnd (fun hc => ?_) (fun hc => ?_) <;> (try simp only [q1, q2, q3, q4, q5, q6, q7, q8, q9, q10, q11, q12, q13, q14, q15, q16, q17, q18, q19, q20, q21, q22, q23, q24, q25, q26, q27, q28, q29, q30, Kd.ty] at hc) <;> (try (exfalso; omega)))
  · refine pushField hl hA L hlt hk (by rw [seg_len]; omega) fun τ2 a' L2 hl2 hA2 _ => ?_
    repeat' (with_reducible refine W.next ?_)
    refine ⟨by omega, ?_, L2, a', hl2, by rw [seg_succ]; exact hA2⟩
    rw [sk, sk]; rfl
  · repeat' (with_reducible refine W.stop ?_)
    have : i = n := by omega
    subst this
    exact ⟨rfl, L, a, hl, hA⟩

theorem blks_w {σ0 τ : Heap} {k p2 : Bool} {a b c l7 : Nat} {xs : AVal} (hx : SlV .int σ0 [(a : Int), (b : Int), (c : Int)] xs) (ha : a < 4) (hb : b < 4) (hc : c < 4) (h7 : Loc τ l7 [.nils, .int .i64 12, .nils]) (L : Hle σ0 τ) (hlt : l7 < σ0.next) (hk : Hle σ0 (σ0.kill l7)) :
    W (loopW (S.skolemlaw6_PrefixBlocks.b1 k p2 xs (.ptr l7 0)) (1, k, 0) τ) fun r => Hle σ0 r.2 ∧ ∃ w, Loc r.2 l7 [w, .int .i64 12, .nils] ∧ SlV vB r.2 (blks k a b c) w := by
  let V : Nat → Nat := fun i => match i with
    | 0 => 1
    | 1 => 1 + a
    | 2 => 1 + a + b
    | _ => 1 + a + b + c
  refine W.loop 3 (fun i (y : Int × Bool × Int) τ => y = ((V i : Int), (if i % 2 = 0 then k else !k), (i : Int)) ∧ Hle σ0 τ ∧ ∃ w, Loc τ l7 [w, .int .i64 12, .nils] ∧ Acc (vBF σ0.next) σ0.next τ ((blks k a b c).take i) w) ⟨rfl, L, .nils, h7, Acc.nil _ _ _⟩ fun i y τ hi hI => ?_
  obtain ⟨rfl, L, w, h7, hA⟩ := hI
  unfold S.skolemlaw6_PrefixBlocks.b1
  dsimp only
  (with_reducible refine W.cnd (fun hq => ?_) (fun hq => ?_) <;> (try simp only [q1, q2, q3, q4, q5, q6, q7, q8, q9, q10, q11, q12, q13, q14, q15, q16, q17, q18, q19, q20, q21, q22, q23, q24, q25, q26, q27, q28, q29, q30, Kd.ty] at hq) <;> (try (exfalso; omega)))
  · refine W.new fun l16 τ1 hl16 L1 h16 hnτ1 => ?_
    refine W.st0 h16 (by rfl) fun τ2 L2 hnτ2 h16 => ?_
    have L01 : Hle τ (τ2.kill l16) := (L1.ofk (by omega) L2).kill (by omega)
    obtain ⟨n, hn, hn4, hVn, hbi⟩ : ∃ n : Nat, [(a : Int), (b : Int), (c : Int)][i]? = some (n : Int) ∧ n < 4 ∧ V (i + 1) = V i + n ∧ (blks k a b c)[i]? = some ((if i % 2 = 0 then k else !k), seg (V i) n) := by
      match i, hq with
      | 0, _ => exact ⟨a, rfl, ha, rfl, rfl⟩
      | 1, _ => exact ⟨b, rfl, hb, rfl, rfl⟩
      | 2, _ => exact ⟨c, rfl, hc, rfl, rfl⟩
      | i + 3, hq => omega
    have hVi : V i ≤ 100 := by
      match i, hq with
      | 0, _ => show 1 ≤ 100; omega
      | 1, _ => show 1 + a ≤ 100; omega
      | 2, _ => show 1 + a + b ≤ 100; omega
      | i + 3, hq => omega
    have hnx := L.next
    repeat' (with_reducible refine W.bind ?_)
    refine W.mono (seg_w (σ0 := τ2.kill l16) (hx.mono (L.mono L01)) hn h16 (Acc.nil _ _ _) (Hle.of_kill _ _) (by show l16 < τ2.next; omega) (Hle.kill2 _ _) (by omega) (by omega)) fun r hr => ?_
    obtain ⟨r, τ3⟩ := r
    obtain ⟨e, L3, s, h16, hS⟩ := hr
    dsimp only at e L3 h16 hS ⊢
    subst e
    have L03 := L01.mono L3
    have h73 := h7.mono L03
    have hA3 := hA.mono L03
    repeat' (with_reducible (first | refine W.asV ?_ | refine W.aggK (by with_unfolding_all rfl) ?_ | refine W.fldp ?_ | refine W.ldL (by assumption) (by with_unfolding_all rfl) ?_ | refine W.ldGL (by assumption) (Nat.le_of_ble_eq_true (by with_unfolding_all rfl)) ?_ | refine W.putC (by with_unfolding_all rfl) ?_))
    have hbl : ((blks k a b c).take i).length = i := by simp [blks]; omega
    refine W.push hA3 (L.mono L03) (cs := [.bool (if i % 2 = 0 then k else !k), s]) (a := ((if i % 2 = 0 then k else !k), seg (V i) n)) (vBF_mk (b := ((if i % 2 = 0 then k else !k), seg (V i) n)) (hS.aside Vw.int_flat (fun l off len c e => by have := hA.loc _ _ _ _ e; show l < τ2.next; omega)).sl (fun l off len c e => by have := hS.from (Nat.le_refl _) _ _ _ _ e; have h5 : (τ2.kill l16).next = τ2.next := rfl; omega)) (by rw [hbl]; omega) (by rw [hbl]; omega) fun w' τ4 L4 hA4 X4 => ?_
    have h74 : Loc τ4 l7 [w, .int .i64 12, .nils] := ((h73.out fun off len c e => by have := hA.loc _ _ _ _ e; omega).mono X4).mono (Hle.out _ _)
    repeat' (with_reducible refine W.fldp ?_)
    refine W.scalS hA4.sl ?_
    refine W.st h74 (Nat.le_of_ble_eq_true (by rfl)) fun τ5 L5 hnτ5 h74 => ?_
    replace h74 : Loc τ5 l7 [w', .int .i64 12, .nils] := h74
    repeat' (with_reducible refine W.next ?_)
    refine ⟨by omega, ?_, (hk.mono (L4.killed l7)).mono L5, w', h74, ?_⟩
    · rw [sk, ← hVn]
      have : (!(if i % 2 = 0 then k else !k)) = (if (i + 1) % 2 = 0 then k else !k) := by
        by_cases h : i % 2 = 0
        · rw [if_pos h, if_neg (by omega)]
        · rw [if_neg h, if_pos (by omega)]; simp
      rw [this]
    · rw [List.take_add_one, hbi]
      exact (hA4.kill (k := l7) (vBF_over _) (by omega)).mono L5
  · repeat' (with_reducible refine W.stop ?_)
    rw [List.take_of_length_le (by simp [blks]; omega)] at hA
    exact ⟨L, w, h7, hA.sl.ofBF⟩

theorem blocksLaw_plain {σ : Heap} {p0 p1 p2 : Int} {k : Bool} (hg : GlAll σ) : W (S.skolemlaw6_PrefixBlocks p0 p1 p2 k σ) fun r => r.1 = true := by
  unfold S.skolemlaw6_PrefixBlocks
  refine W.call first6_w fun r hr => ?_
  obtain ⟨r, τ1⟩ := r; obtain ⟨hr, L⟩ := hr; dsimp only at hr L ⊢; subst hr
  repeat' (first | (with_reducible refine W.bind ?_) | (with_reducible refine W.condF ?_ ?_; focus (first | (simp only [q1, q2, q3, q4, q5, q6, q7, q8, q9, q10, q11, q12, q13, q14, q15, q16, q17, q18, q19, q20, q21, q22, q23, q24, q25, q26, q27, q28, q29, q30, Kd.ty]; done) | (simp only [q1, q2, q3, q4, q5, q6, q7, q8, q9, q10, q11, q12, q13, q14, q15, q16, q17, q18, q19, q20, q21, q22, q23, q24, q25, q26, q27, q28, q29, q30, Kd.ty]; omega) | assumption)))
  refine W.to (number_eq (by omega) (by omega)) ?_
  repeat' (with_reducible (first | refine W.ret ?_ | refine W.bind ?_))
  refine W.to (number_eq (by omega) (by omega)) ?_
  repeat' (with_reducible (first | refine W.ret ?_ | refine W.bind ?_))
  refine W.to (number_eq (by omega) (by omega)) ?_
  repeat' (with_reducible refine W.ret ?_)
  obtain ⟨a, ea, ha⟩ : ∃ a : Nat, p0 % 4 = (a : Int) ∧ a < 4 := ⟨(p0 % 4).toNat, by omega, by omega⟩
  obtain ⟨b, eb, hb⟩ : ∃ a : Nat, p1 % 4 = (a : Int) ∧ a < 4 := ⟨(p1 % 4).toNat, by omega, by omega⟩
  obtain ⟨c, ec, hc⟩ : ∃ a : Nat, p2 % 4 = (a : Int) ∧ a < 4 := ⟨(p2 % 4).toNat, by omega, by omega⟩
  rw [ea, eb, ec]
  refine W.newg fun l5 τ2 hl5 L2 _ hg2 hn2 => ?_
  have hx : SlV .int τ2 [(a : Int), (b : Int), (c : Int)] (.sl l5 0 3 none) := .inr ⟨l5, 0, none, .rw, _, rfl, by omega, hg2, Nat.le_of_ble_eq_true rfl, fun i z hi => by
    match i, hi with
    | 0, hi => cases hi; rfl
    | 1, hi => cases hi; rfl
    | 2, hi => cases hi; rfl
    | j + 3, hi => simp at hi⟩
  replace L := L.mono L2
  have hnx := L2.next
  refine W.new fun l7 τ3 hl7 L3 h7 hnτ3 => ?_
  refine W.st0 h7 (by rfl) fun τ4 L4 hnτ4 h7 => ?_
  have L24 : Hle τ2 (τ4.kill l7) := (L3.ofk (by omega) L4).kill (by omega)
  repeat' (with_reducible refine W.bind ?_)
  refine W.mono (blks_w (σ0 := τ4.kill l7) (hx.mono L24) ha hb hc h7 (Hle.of_kill _ _) (by show l7 < τ4.next; omega) (Hle.kill2 _ _)) fun r hr => ?_
  obtain ⟨r, τ5⟩ := r
  obtain ⟨L5, w, h7, hU⟩ := hr
  dsimp only at L5 h7 hU ⊢
  replace L := (L.mono L24).mono L5
  replace hx := (hx.mono L24).mono L5
  have hok := okB_of k ha hb hc
  have hbt : total (blks k a b c) ≤ 9 := by simp [total, blks, seg_len]; omega
  have hbn : (blks k a b c).length = 3 := rfl
  repeat' (with_reducible (first | refine W.bind ?_ | refine W.ldGL (by assumption) (Nat.le_of_ble_eq_true (by with_unfolding_all rfl)) ?_))
  refine W.mono (norm_w (vars := 12) (cs := []) ((hg.sub (by decide)).mono L) hU (SlV.nil _ _) (by simp) (by simp) (by omega) (by omega) (fun c h => by cases h)) fun r hr => ?_
  obtain ⟨⟨ga, ge⟩, τ6⟩ := r
  obtain ⟨L6, hF, us, hus, hG⟩ := hr
  dsimp only at L6 hF hus hG ⊢
  subst hus
  rw [nF_eq] at hF
  rw [nG_eq] at hG
  obtain ⟨go, gi, gc, eg, g1, g2, g3⟩ := hG
  subst eg
  replace L := L.mono L6
  replace hx := hx.mono L6
  have hnx := L6.next
  refine W.new fun l53 τ7 hl53 L7 h53 hnτ7 => ?_
  repeat' (with_reducible refine W.aggK (by with_unfolding_all rfl) ?_)
  refine W.st0 h53 (by rfl) fun τ8 L8 hnτ8 h53 => ?_
  have L68 : Hle τ6 τ8 := L7.ofk (by omega) L8
  replace L := L.mono L68
  replace hx := hx.mono L68
  replace hF := hF.mono L68
  replace g1 := g1.mono L68
  replace g2 := g2.mono L68
  have hnx := L68.next
  unfold okB at hok
  generalize nF (blks k a b c) = F at *
  generalize nG (blks k a b c) = G at *
  have i0 : ∀ {R : Type} {K : Int → Option R} {Q : R → Prop}, W (K (a : Int)) Q → W (ixA τ8 (.sl l5 0 3 none) 1 0 fun p => ld τ8 p (.I .i64) K) Q := fun h => W.ixIc (i := 0) hx rfl h
  have i1 : ∀ {R : Type} {K : Int → Option R} {Q : R → Prop}, W (K (b : Int)) Q → W (ixA τ8 (.sl l5 0 3 none) 1 1 fun p => ld τ8 p (.I .i64) K) Q := fun h => W.ixIc (i := 1) hx rfl h
  have i2 : ∀ {R : Type} {K : Int → Option R} {Q : R → Prop}, W (K (c : Int)) Q → W (ixA τ8 (.sl l5 0 3 none) 1 2 fun p => ld τ8 p (.I .i64) K) Q := fun h => W.ixIc (i := 2) hx rfl h
  by_cases h3 : a > 0 ∧ b > 0 ∧ c > 0
  · rw [if_pos h3] at hok
    have hFe := of_decide_eq_true hok
    subst hFe
    repeat' (first | (with_reducible (first | refine W.ret ?_ | refine W.bind ?_)) | (with_reducible refine W.condT ?_ ?_; focus (first | (simp only [q1, q2, q3, q4, q5, q6, q7, q8, q9, q10, q11, q12, q13, q14, q15, q16, q17, q18, q19, q20, q21, q22, q23, q24, q25, q26, q27, q28, q29, q30, Kd.ty]; done) | (simp only [q1, q2, q3, q4, q5, q6, q7, q8, q9, q10, q11, q12, q13, q14, q15, q16, q17, q18, q19, q20, q21, q22, q23, q24, q25, q26, q27, q28, q29, q30, Kd.ty]; omega) | assumption)) | refine i0 ?_ | refine i1 ?_ | refine i2 ?_)
    refine W.mono bare_w fun r hr => ?_
    obtain ⟨r, τ9⟩ := r; obtain ⟨hr, L9⟩ := hr; dsimp only at hr L9 ⊢; subst hr
    replace L := L.mono L9
    replace hF := hF.mono L9
    have hnx := L9.next
    repeat' (with_reducible refine W.bind ?_)
    refine W.mono (see_w (g := some (.blocks, none)) (hg.mono L) hF) fun r hr => ?_
    obtain ⟨r, τ10⟩ := r
    obtain ⟨hr, L10⟩ := hr
    dsimp only at hr
    subst hr
    repeat' (with_reducible refine W.ret ?_)
    rfl
  · rw [if_neg h3] at hok
    simp only [Bool.and_eq_true, decide_eq_true_eq] at hok
    obtain ⟨⟨hFe, hsum⟩, hrest⟩ := hok
    subst hFe
    have hF : ge = .nili := hF
    subst hF
    have w1 : IntKind.i64.wrap ((G.2.1.length : Int) + (G.2.2.1.length : Int)) = ((a + b + c : Nat) : Int) := by rw [wrapS] <;> omega
    have w2 : IntKind.i64.wrap ((IntKind.i64.wrap ((a : Int) + (b : Int))) + (c : Int)) = ((a + b + c : Nat) : Int) := by rw [wrapS (n := (a : Int) + b) (by omega) (by omega), wrapS] <;> omega
    have w3 : IntKind.i64.wrap ((a : Int) + (c : Int)) = ((a + c : Nat) : Int) := by rw [wrapS] <;> omega
    have hand : W (ixA τ8 (.sl l5 0 3 none) 1 0 fun a57 => ld τ8 a57 (.I .i64) fun n58 => cond (decide (n58 > 0)) (ixA τ8 (.sl l5 0 3 none) 1 1 fun a59 => ld τ8 a59 (.I .i64) fun n60 => cond (decide (n60 > 0)) (ixA τ8 (.sl l5 0 3 none) 1 2 fun a61 => ld τ8 a61 (.I .i64) fun n62 => some (decide (n62 > 0))) (some false)) (some false)) fun r => r = false := by
      repeat' (first | (with_reducible refine W.ret ?_) | (with_reducible refine W.cnd (fun hc => ?_) (fun hc => ?_) <;> (try simp only [q1, q2, q3, q4, q5, q6, q7, q8, q9, q10, q11, q12, q13, q14, q15, q16, q17, q18, q19, q20, q21, q22, q23, q24, q25, q26, q27, q28, q29, q30, Kd.ty] at hc) <;> (try (exfalso; omega))) | refine i0 ?_ | refine i1 ?_ | refine i2 ?_)
      all_goals first | rfl | exact decide_eq_false (fun h => h3 ⟨by omega, by omega, by have h : 0 < (c : Int) := h; omega⟩)
    repeat' (with_reducible refine W.bind ?_)
    refine W.mono hand fun r hr => ?_
    subst hr
    repeat' (first | (with_reducible (first | refine W.bind ?_ | refine W.asV ?_ | refine W.len (by assumption) ?_ | refine W.ldL (by assumption) (by with_unfolding_all rfl) ?_ | refine W.nnil ?_)) | (with_reducible refine W.condF ?_ ?_; focus (first | (simp only [q1, q2, q3, q4, q5, q6, q7, q8, q9, q10, q11, q12, q13, q14, q15, q16, q17, q18, q19, q20, q21, q22, q23, q24, q25, q26, q27, q28, q29, q30, Kd.ty]; done) | (simp only [q1, q2, q3, q4, q5, q6, q7, q8, q9, q10, q11, q12, q13, q14, q15, q16, q17, q18, q19, q20, q21, q22, q23, q24, q25, q26, q27, q28, q29, q30, Kd.ty]; omega) | assumption)))
    refine W.mono (P := fun r => r = false) ?_ fun r hr => ?_
    · repeat' (first | (with_reducible refine W.ret ?_) | refine i0 ?_ | refine i1 ?_ | refine i2 ?_)
      rw [w1, w2]
      simp [hsum]
    · subst hr
      by_cases hb0 : b = 0
      · subst hb0
        rw [if_pos rfl] at hrest
        simp only [Bool.and_eq_true, decide_eq_true_eq] at hrest
        obtain ⟨r1, r2⟩ := hrest
        refine W.condF rfl ?_
        refine i1 ?_
        refine W.condT (by rfl) ?_
        repeat' (first | (with_reducible (first | refine W.bind ?_ | refine W.asB ?_ | refine W.asV ?_ | refine W.len (by assumption) ?_ | refine W.ldL (by assumption) (by with_unfolding_all rfl) ?_)) | (with_reducible refine W.condT ?_ ?_; focus (first | (simp only [q1, q2, q3, q4, q5, q6, q7, q8, q9, q10, q11, q12, q13, q14, q15, q16, q17, q18, q19, q20, q21, q22, q23, q24, q25, q26, q27, q28, q29, q30, Kd.ty]; done) | (simp only [q1, q2, q3, q4, q5, q6, q7, q8, q9, q10, q11, q12, q13, q14, q15, q16, q17, q18, q19, q20, q21, q22, q23, q24, q25, q26, q27, q28, q29, q30, Kd.ty]; omega) | assumption)))
        cases k with
        | true =>
          repeat' (first | (with_reducible refine W.ret ?_) | (with_reducible refine W.condT ?_ ?_; focus (first | (simp only [q1, q2, q3, q4, q5, q6, q7, q8, q9, q10, q11, q12, q13, q14, q15, q16, q17, q18, q19, q20, q21, q22, q23, q24, q25, q26, q27, q28, q29, q30, Kd.ty]; done) | (simp only [q1, q2, q3, q4, q5, q6, q7, q8, q9, q10, q11, q12, q13, q14, q15, q16, q17, q18, q19, q20, q21, q22, q23, q24, q25, q26, q27, q28, q29, q30, Kd.ty]; omega) | assumption)))
          simp [r2]
        | false =>
          repeat' (first | (with_reducible refine W.ret ?_) | (with_reducible refine W.condF ?_ ?_; focus (first | (simp only [q1, q2, q3, q4, q5, q6, q7, q8, q9, q10, q11, q12, q13, q14, q15, q16, q17, q18, q19, q20, q21, q22, q23, q24, q25, q26, q27, q28, q29, q30, Kd.ty]; done) | (simp only [q1, q2, q3, q4, q5, q6, q7, q8, q9, q10, q11, q12, q13, q14, q15, q16, q17, q18, q19, q20, q21, q22, q23, q24, q25, q26, q27, q28, q29, q30, Kd.ty]; omega) | assumption)) | refine i0 ?_ | refine i2 ?_)
          rw [w3, r2]
          by_cases hz : a + c = 0
          · simp [hz]
          · have e1 : decide (a + c = 0) = false := decide_eq_false hz
            have e2 : (((a + c : Nat) : Int) == 0) = false := beq_eq_false_iff_ne.2 (by omega)
            rw [e1, e2]; rfl
      · rw [if_neg hb0] at hrest
        by_cases ha0 : a = 0
        · subst ha0
          rw [if_pos rfl] at hrest
          simp only [Bool.and_eq_true, decide_eq_true_eq] at hrest
          obtain ⟨⟨r1, r2⟩, r3⟩ := hrest
          refine W.condF rfl ?_
          refine i1 ?_
          refine W.condF (by simp; omega) ?_
          refine i0 ?_
          repeat' (first | (with_reducible (first | refine W.ret ?_ | refine W.bind ?_ | refine W.asB ?_ | refine W.asV ?_ | refine W.len (by assumption) ?_ | refine W.ldL (by assumption) (by with_unfolding_all rfl) ?_)) | (with_reducible refine W.condT ?_ ?_; focus (first | (simp only [q1, q2, q3, q4, q5, q6, q7, q8, q9, q10, q11, q12, q13, q14, q15, q16, q17, q18, q19, q20, q21, q22, q23, q24, q25, q26, q27, q28, q29, q30, Kd.ty]; done) | (simp only [q1, q2, q3, q4, q5, q6, q7, q8, q9, q10, q11, q12, q13, q14, q15, q16, q17, q18, q19, q20, q21, q22, q23, q24, q25, q26, q27, q28, q29, q30, Kd.ty]; omega) | assumption)) | refine i1 ?_ | refine i2 ?_)
          all_goals first | (simp [r2, r3]; done) | (exfalso; omega)
        · rw [if_neg ha0] at hrest
          simp only [Bool.and_eq_true, decide_eq_true_eq] at hrest
          obtain ⟨⟨r1, r2⟩, r3⟩ := hrest
          refine W.condF rfl ?_
          refine i1 ?_
          refine W.condF (by simp; omega) ?_
          refine i0 ?_
          repeat' (first | (with_reducible (first | refine W.ret ?_ | refine W.bind ?_ | refine W.asB ?_ | refine W.asV ?_ | refine W.len (by assumption) ?_ | refine W.ldL (by assumption) (by with_unfolding_all rfl) ?_)) | (with_reducible refine W.condT ?_ ?_; focus (first | (simp only [q1, q2, q3, q4, q5, q6, q7, q8, q9, q10, q11, q12, q13, q14, q15, q16, q17, q18, q19, q20, q21, q22, q23, q24, q25, q26, q27, q28, q29, q30, Kd.ty]; done) | (simp only [q1, q2, q3, q4, q5, q6, q7, q8, q9, q10, q11, q12, q13, q14, q15, q16, q17, q18, q19, q20, q21, q22, q23, q24, q25, q26, q27, q28, q29, q30, Kd.ty]; omega) | assumption)) | (with_reducible refine W.condF ?_ ?_; focus (first | (simp only [q1, q2, q3, q4, q5, q6, q7, q8, q9, q10, q11, q12, q13, q14, q15, q16, q17, q18, q19, q20, q21, q22, q23, q24, q25, q26, q27, q28, q29, q30, Kd.ty]; done) | (simp only [q1, q2, q3, q4, q5, q6, q7, q8, q9, q10, q11, q12, q13, q14, q15, q16, q17, q18, q19, q20, q21, q22, q23, q24, q25, q26, q27, q28, q29, q30, Kd.ty]; omega) | assumption)) | refine i0 ?_ | refine i1 ?_)
          all_goals first | (simp [r2, r3]; done) | (exfalso; omega)
end Go.Proofs.YtgneblbblihaoaaDoor.A
