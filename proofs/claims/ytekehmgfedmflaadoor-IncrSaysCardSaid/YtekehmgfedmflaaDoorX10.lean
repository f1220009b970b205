/- Parts of the proof, one behind another. -/
import Derived.Test.YtekehmgfedmflaaDoorX9
set_option linter.all false
/- The engine's propagation: a clause is added. -/
namespace Go.Proofs.YtekehmgfedmflaaDoor.A
open Go
section
variable {σ τ : Heap} {T T' : Tg} {lp l1 n : Nat} {h : PH} {s : PS}
theorem propAdd1_eq (p : PropH σ T lp h s) (hL : s.vs.length = n + 1) (hn : n ≤ 4000) (hl : Loc (σ.at T 0) l1 [.ptr lp 0]) {x : Int} (hx : inB x = true) : S.prop_Prop_Add_1 x (.ptr l1 0) σ = some (!isL x n) := by
  obtain ⟨r, e, rfl⟩ : W (S.prop_Prop_Add_1 x (.ptr l1 0) σ) fun r => r = !isL x n := by
    have k1 := p.obj
    have k2 := p.asg
    have k3 := p.vs
    simp only [inB, Bool.and_eq_true, decide_eq_true_eq] at hx
    unfold S.prop_Prop_Add_1
    repeat' (with_reducible (first | refine W.bind ?_ | refine W.asV ?_ | refine W.fldp ?_ | refine W.nck ?_ | refine W.ldL (Loc.up (by assumption)) (by with_unfolding_all rfl) ?_))
    refine W.to (asgVars_eq k2 k3 (by omega)) ?_
    repeat' (with_reducible (first | refine W.ret ?_ | refine W.bind ?_))
    rw [show (s.vs.length : Int) - 1 = (n : Int) by omega]
    refine W.to (litsIs_eq (by omega) (by omega)) ?_
    repeat' (with_reducible refine W.ret ?_)
    rfl
  exact e
/-- A clause is watched at a literal. -/
def PS.watch (s : PS) (l : Int) (id : Nat) : PS := { s with wat := s.wat.set (wAt l) (s.wat.getD (wAt l) [] ++ [(id : Int)]) }
theorem addB0_w (p : PropH σ T lp h s) (hn : Tn σ T) (hl : Loc (σ.at T 0) l1 [.ptr lp 0]) {y : AVal} {c : List Int} {id u : Nat} (hy : SlV .int (σ.at T u) c y) (hu : ∀ k, u ≠ 51 + 2 * k) (hu9 : u ≠ 9) (hc : ∀ l ∈ c, wAt l < s.wat.length ∧ l.natAbs ≤ 1000000) (hcl : c.length ≤ 10) (hb : ∀ w ∈ s.wat, w.length + 10 ≤ 8700000000000) :
    W (loopW (S.prop_Prop_Add.b0 (.ptr l1 0) (id : Int) y (c.length : Int)) 0 σ) fun r => ∃ T' h', Hop pI σ T r.2 T' ∧ PropH r.2 T' lp h' (c.foldl (fun s l => s.watch l id) s) := by
  refine W.loop c.length (fun i (z : Int) τ => z = (i : Int) ∧ ∃ T' h', Hop pI σ T τ T' ∧ Loc (τ.at T' 0) l1 [.ptr lp 0] ∧ SlV .int (τ.at T' u) c y ∧ PropH τ T' lp h' ((c.take i).foldl (fun s l => s.watch l id) s) ∧ ((c.take i).foldl (fun s l => s.watch l id) s).wat.length = s.wat.length ∧
    ∀ w ∈ ((c.take i).foldl (fun s l => s.watch l id) s).wat, w.length + 10 ≤ 8700000000000 + i) ⟨rfl, T, h, Hop.refl hn, hl, hy, p, rfl, hb⟩ fun i z τ hi hI => ?_
  obtain ⟨rfl, T1, h1, HH, hl, hy, p, hwl, hwb⟩ := hI
  have hn := HH.tn
  unfold S.prop_Prop_Add.b0
  (with_reducible refine W.cnd (fun hlt => ?_) (fun hlt => ?_) <;> (try simp only [q1, q2, q3, q4, q5, q6, q7, q8, q9, q10, q11, q12, q13, q14, q15, q16, q17, q18, q19, q20, q21, q22, q23, q24, q25, q26, q27, q28, q29, q30, Kd.ty] at hlt) <;> (try (exfalso; omega)))
  · obtain ⟨a, ha⟩ : ∃ a, c[i]? = some a := ⟨_, List.getElem?_eq_getElem (by omega)⟩
    obtain ⟨hw, hab⟩ := hc a (List.mem_of_getElem? ha)
    have ht : c.take (i + 1) = c.take i ++ [a] := by rw [List.take_add_one, ha]; rfl
    rw [ht, List.foldl_append]
    generalize (c.take i).foldl (fun s l => s.watch l id) s = s1 at p hwl hwb ⊢
    obtain ⟨xs, z, hx, hz, hO⟩ := p.wf.get (k := wAt a) (by omega)
    have hmx := hwb xs (List.mem_of_getElem? hx)
    have hgd : s1.wat.getD (wAt a) [] = xs := by rw [List.getD_eq_getElem?_getD, hx]; rfl
    have hlw := p.wf.1
    obtain ⟨k1, k2, k3, k4, k5, k6, k7, k8, k9, k10, k11, k12, k13⟩ := p
    have k9' := k9
    repeat' (with_reducible (first | refine W.bind ?_ | refine W.asV ?_ | refine W.fldp ?_ | refine W.nck ?_ | refine W.ldL (Loc.up (by assumption)) (by with_unfolding_all rfl) ?_ | refine W.ixIc (SlV.up (by assumption)) (by assumption) ?_))
    refine W.to (at_eq hab) ?_
    repeat' (with_reducible (first | refine W.ret ?_ | refine W.bind ?_ | refine W.asV ?_ | refine W.fldp ?_ | refine W.nck ?_ | refine W.ldL (Loc.up (by assumption)) (by with_unfolding_all rfl) ?_))
    refine W.to (at_eq hab) ?_
    repeat' (with_reducible refine W.ret ?_)
    refine W.ixV k9.slT hz ?_
    skip
    refine W.own_push (bytes := 8) Vw.int_flat hO hn (a := (id : Int)) rfl (by omega) (by omega) fun x2 τ2 T2 hO H2 => ?_
    replace HH := HH.inP H2 (by simp [pI]; omega)
    replace hl := hl.hop H2 (by simp; omega)
    replace hy := hy.hop H2 (by have := hu (wAt a); simp; omega)
    replace k1 := k1.hop H2 (by simp; omega)
    replace k2 := k2.hop H2 (by simp; omega)
    replace k3 := k3.hop H2 (by simp; omega)
    replace k4 := k4.hop H2 (by simp; omega)
    replace k5 := k5.hop H2 (by simp; omega)
    replace k6 := k6.hop H2 (by simp; omega)
    replace k7 := k7.hop H2 (by simp; omega)
    replace k8 := k8.hop H2 (by simp; omega)
    replace k9 := k9.hop H2 (by simp; omega)
    replace k10 := k10.hop H2 (by simp; omega)
    replace k11 := k11.hop H2 (by intro i; simp; omega)
    replace k13 := k13.hopAt H2 hO
    replace hn := H2.tn
    repeat' (with_reducible (first | refine W.asV ?_ | refine W.chk rfl ?_ | refine W.ldL (Loc.up (by assumption)) (by with_unfolding_all rfl) ?_))
    refine W.ixO k9.slT (i := wAt a) (by omega) ?_
    repeat' (with_reducible refine W.scalS (Own.slT (by assumption)) ?_)
    refine W.own_setV k9 hn (a := x2) (by omega) fun τ3 k9 H3 _ => ?_
    replace HH := HH.inP H3
    replace hy := hy.hop H3 (by simp; exact hu9)
    replace hl := hl.hop H3
    replace k1 := k1.hop H3
    replace k2 := k2.hop H3
    replace k3 := k3.hop H3
    replace k4 := k4.hop H3
    replace k5 := k5.hop H3
    replace k6 := k6.hop H3
    replace k7 := k7.hop H3
    replace k8 := k8.hop H3
    replace k10 := k10.hop H3
    replace k11 := k11.hop H3
    replace k13 := k13.hop H3
    replace hn := H3.tn
    repeat' (with_reducible refine W.next ?_)
    refine ⟨by omega, sk, T2, { h1 with ws := h1.ws.set (wAt a) x2 }, HH, hl, hy, ?_, ?_, fun w hw2 => ?_⟩
    · simp only [List.foldl_cons, List.foldl_nil, PS.watch, hgd]
      exact ⟨k1, k2, k3, k4, k5, k6, k7, k8, k9, k10, k11, k12, k13⟩
    · simp [PS.watch, hwl]
    · simp only [List.foldl_cons, List.foldl_nil, PS.watch, hgd] at hw2
      rcases List.mem_or_eq_of_mem_set hw2 with e | e
      · have := hwb w e; omega
      · rw [e]; simp; omega
  · repeat' (with_reducible refine W.stop ?_)
    rw [List.take_of_length_le (by omega)] at p
    exact ⟨T1, h1, HH, p⟩
theorem Fam.hopLt {b : Nat} {xs : List (List Int)} {ws : List AVal} {I : Nat → Bool} (h : Fam σ T b xs ws) (H : Hop I σ T τ T') (hI : ∀ i, i < xs.length → I (b + 2 * i) = false) : Fam τ T' b xs ws := ⟨h.1, fun i a y h1 h2 => (h.2 i a y h1 h2).hop H (hI i (List.getElem?_eq_some_iff.1 h1).1)⟩
/-- A new clause's cells come. -/
theorem PropH.hopNew (p : PropH σ T lp h s) (H : Hop (only (50 + 2 * s.cls.length)) σ T τ T') : PropH τ T' lp h s :=
  ⟨p.obj.hop H (by simp; omega), p.asg.hop H (by simp; omega), p.vs.hop H (by simp; omega), p.lev.hop H (by simp; omega), p.rea.hop H (by simp; omega), p.trail.hop H (by simp; omega), p.marks.hop H (by simp; omega), p.cls.hop H (by simp; omega), p.wat.hop H (by simp; omega), p.loose.hop H (by simp; omega),
    p.cf.hopLt H (fun i hi => by simp at hi ⊢; omega), p.cb, p.wf.hop H (by intro i; simp; omega)⟩
/-- A clause comes in. -/
def PS.add (s : PS) (l : List Int) : PS := ((if 1 < l.length then l.take 2 else []).foldl (fun (q : PS) x => q.watch x s.cls.length) { s with cls := s.cls ++ [(l, true, false)] }).look s.cls.length
theorem fold_watch (id : Nat) : ∀ (l : List Int) (s : PS), (l.foldl (fun (q : PS) x => q.watch x id) s).cls = s.cls ∧ (l.foldl (fun (q : PS) x => q.watch x id) s).loose = s.loose
  | [], s => ⟨rfl, rfl⟩
  | a :: l, s => by have := fold_watch id l (s.watch a id); exact this
def addBad (n : Nat) (c : List Int) : Bool := !saysN c || (normL c).any fun l => !isL l n
theorem propAdd_w (p : PropH σ T lp h s) (hn : Tn σ T) (hL : PLen (n + 1) s) (hv : n ≤ 4000) {c : List Int} {x : AVal} {u : Nat} (hx : SlV .int (σ.at T u) c x) (hin : c.all inB = true) (hcl : c.length ≤ 1000000) (hb : s.loose.length ≤ 8700000000000) (hb2 : s.cls.length ≤ 1000000000000)
    (hwb : ∀ w ∈ s.wat, w.length + 10 ≤ 8700000000000) :
    W (S.prop_Prop_Add (.ptr lp 0) x σ) fun r => ∃ T' h', Hop pI σ T r.2 T' ∧ ((addBad n c = true ∧ r.1 = (0, false) ∧ PropH r.2 T' lp h' s) ∨ (addBad n c = false ∧ r.1 = ((s.cls.length : Int), true) ∧ PropH r.2 T' lp h' (s.add (normL c)))) := by
  unfold S.prop_Prop_Add
  refine W.scP ?_
  refine W.new0 hn fun l1 τ1 _ L1 hl hn1 => ?_
  replace p := p.hle L1
  replace hx := hx.hle L1
  have HH : Hop pI σ T τ1 T := Hop.of hn L1
  refine W.bind ?_
  refine W.mono (normO_w hx.up hin hcl) fun r hr => ?_
  obtain ⟨⟨z, says⟩, τ2⟩ := r
  obtain ⟨e, L2, hF⟩ := hr
  dsimp only at e L2 hF ⊢
  subst e
  obtain ⟨T2, H2, hZ⟩ := hF.own (50 + 2 * s.cls.length) hn1 L2
  have p2 := p.hopNew H2
  replace hl := hl.hop H2 (by simp; omega)
  replace HH := HH.inP H2 (by simp [pI])
  have hn2 := H2.tn
  have hnl := normL_len c
  have hnin : ∀ l ∈ normL c, inB l = true := fun l hl => List.all_eq_true.1 hin l (normL_mem.1 hl)
  refine W.bind ?_
  refine W.mono (P := fun r => r = (addBad n c, τ2)) ?_ fun r hr => ?_
  · unfold addBad
    cases hs : saysN c with
    | false =>
      refine W.condT rfl ?_
      repeat' (with_reducible refine W.ret ?_)
      rfl
    | true =>
      refine W.condF rfl ?_
      refine W.bind ?_
      refine W.mono (containsFunc_w (fun l => !isL l n) hZ.slT (by omega) fun l hl2 Rt K => ?_) fun r hr => ?_
      · show ((S.prop_Prop_Add_1 l (.ptr l1 0) τ2).bind fun x => K (retV [.B] x) τ2) = _
        rw [propAdd1_eq p2 hL.vs hv hl (hnin l hl2)]
        rfl
      · subst hr
        repeat' (with_reducible refine W.ret ?_)
        rfl
  subst hr
  cases hbad : addBad n c with
  | true =>
    refine W.condT rfl ?_
    repeat' (with_reducible refine W.ret ?_)
    exact ⟨T2, h, HH, .inl ⟨rfl, rfl, p2⟩⟩
  | false =>
    refine W.condF rfl ?_
    have hall : ∀ l ∈ normL c, isL l n = true := fun l hl2 => by
      unfold addBad at hbad
      simp only [Bool.or_eq_false_iff, List.any_eq_false] at hbad
      simpa using hbad.2 l hl2
    obtain ⟨e1, e2, e3, e4⟩ := hL
    obtain ⟨k1, k2, k3, k4, k5, k6, k7, k8, k9, k10, k11, k12, k13⟩ := p2
    have hcl2 : h.cs.length = s.cls.length := by have := congrArg List.length k12; simpa using this
    have hn := hn2
    repeat' (with_reducible (first | refine W.asV ?_ | refine W.fldp ?_ | refine W.nck ?_ | refine W.ldL (Loc.up (by assumption)) (by with_unfolding_all rfl) ?_ | refine W.len (Own.slT (by assumption)) ?_ | refine W.scalS (Own.slT (by assumption)) ?_))
    refine W.own_push (bytes := 32) vCl_flat k8 hn (a := (z, true, false)) rfl (by omega) (by omega) fun x2 τ3 T3 k8 H3 => ?_
    replace HH := HH.inP H3
    replace hZ := hZ.hop H3 (by simp; omega)
    replace hl := hl.hop H3
    replace k1 := k1.hop H3
    replace k2 := k2.hop H3
    replace k3 := k3.hop H3
    replace k4 := k4.hop H3
    replace k5 := k5.hop H3
    replace k6 := k6.hop H3
    replace k7 := k7.hop H3
    replace k9 := k9.hop H3
    replace k10 := k10.hop H3
    replace k11 := k11.hop H3
    replace k13 := k13.hop H3
    replace hn := H3.tn
    repeat' (with_reducible (first | refine W.asV ?_ | refine W.chk rfl ?_ | refine W.fldp ?_ | refine W.nck ?_ | refine W.ldL (Loc.up (by assumption)) (by with_unfolding_all rfl) ?_ | refine W.scalS (Own.slT (by assumption)) ?_))
    refine W.stT k1 hn (Nat.le_of_ble_eq_true (by rfl)) fun τ4 H4 k1 hnτ4 => ?_
    replace HH := HH.inP H4
    replace hZ := hZ.hop H4 (by simp; omega)
    replace hl := hl.hop H4
    replace k2 := k2.hop H4
    replace k3 := k3.hop H4
    replace k4 := k4.hop H4
    replace k5 := k5.hop H4
    replace k6 := k6.hop H4
    replace k7 := k7.hop H4
    replace k8 := k8.hop H4
    replace k9 := k9.hop H4
    replace k10 := k10.hop H4
    replace k11 := k11.hop H4
    replace k13 := k13.hop H4
    replace hn := H4.tn
    have p4 : PropH τ4 T3 lp { h with xc := x2, cs := h.cs ++ [(z, true, false)] } { s with cls := s.cls ++ [(normL c, true, false)] } :=
      ⟨k1, k2, k3, k4, k5, k6, k7, k8, k9, k10, by
        show Fam τ4 T3 50 ((s.cls ++ [(normL c, true, false)]).map (·.1)) ((h.cs ++ [(z, true, false)]).map (·.1))
        rw [List.map_append, List.map_append]
        exact k11.push (by simpa using hZ), by
        show (h.cs ++ [(z, true, false)]).map (·.2) = (s.cls ++ [(normL c, true, false)]).map (·.2)
        rw [List.map_append, List.map_append, k12]; rfl, k13⟩
    repeat' (with_reducible (first | refine W.bind ?_ | refine W.len (Own.slT (by assumption)) ?_))
    rw [hcl2]
    refine W.mono (P := fun r => ∃ T' h', Hop pI τ4 T3 r.2 T' ∧ PropH r.2 T' lp h' ((if 1 < (normL c).length then (normL c).take 2 else []).foldl (fun (q : PS) x => q.watch x s.cls.length) { s with cls := s.cls ++ [(normL c, true, false)] })) ?_ fun r hr => ?_
    · (with_reducible refine W.cnd (fun hlen => ?_) (fun hlen => ?_) <;> (try simp only [q1, q2, q3, q4, q5, q6, q7, q8, q9, q10, q11, q12, q13, q14, q15, q16, q17, q18, q19, q20, q21, q22, q23, q24, q25, q26, q27, q28, q29, q30, Kd.ty] at hlen) <;> (try (exfalso; omega)))
      · rw [if_pos (by omega)]
        obtain ⟨y2, e5, hy2⟩ := hZ.slice (lo := 0) (hi := 2) (by omega) (by omega)
        rw [List.drop_zero] at hy2
        refine W.to ((e5 (at_le (σ := τ4) (T := T3) (i := 50 + 2 * s.cls.length)) _).1) ?_
        repeat' (with_reducible (first | refine W.bind ?_ | refine W.len (Own.slT (by assumption)) ?_))
        refine W.mono (addB0_w p4 hn hl (id := s.cls.length) (u := 50 + 2 * s.cls.length) hy2.sl (fun k => by omega) (by omega) (fun l hl2 => ?_) (by simp; omega) hwb) fun r hr => W.ret hr
        have := isL_iff.1 (hall l (List.mem_of_mem_take hl2))
        refine ⟨?_, by omega⟩
        show wAt l < s.wat.length
        unfold wAt
        rw [e4]
        split <;> omega
      · rw [if_neg (by omega)]
        repeat' (with_reducible refine W.ret ?_)
        exact ⟨T3, _, Hop.refl hn, p4⟩
    · obtain ⟨r, τ5⟩ := r
      obtain ⟨T5, h5, H5, p5⟩ := hr
      dsimp only at H5 p5 ⊢
      replace hl := hl.hop H5
      repeat' (with_reducible (first | refine W.bind ?_ | refine W.asV ?_ | refine W.ldL (Loc.up (by assumption)) (by with_unfolding_all rfl) ?_))
      obtain ⟨q1, q2⟩ := fold_watch s.cls.length (if 1 < (normL c).length then (normL c).take 2 else []) { s with cls := s.cls ++ [(normL c, true, false)] }
      refine W.mono (propLook_w p5 H5.tn (id := s.cls.length) (by rw [q1]; simp) (by rw [q2]; show s.loose.length ≤ _; omega) (by rw [q1]; simp; omega)) fun r hr => ?_
      obtain ⟨r, τ6⟩ := r
      obtain ⟨T6, h6, H6, p6⟩ := hr
      repeat' (with_reducible refine W.ret ?_)
      exact ⟨T6, h6, (HH.trans H5).trans H6, .inr ⟨rfl, rfl, p6⟩⟩
end
end Go.Proofs.YtekehmgfedmflaaDoor.A

/- The engine's propagation: what holds of its state; a literal comes to be true. -/
namespace Go.Proofs.YtekehmgfedmflaaDoor.A
open Go
/-- A literal's level. -/
def PS.lv (s : PS) (l : Int) : Int := s.lev.getD l.natAbs 0
/-- A literal's reason. -/
def PS.re (s : PS) (l : Int) : Int := s.rea.getD l.natAbs 0
/-- A literal comes to be true. -/
def PS.setL (s : PS) (l r : Int) : PS := { s with vs := setV s.vs l, lev := s.lev.set l.natAbs s.marks.length, rea := s.rea.set l.natAbs r, trail := s.trail ++ [l] }
/-- Why a literal is true. -/
def PS.Rs (s : PS) (i : Nat) (l : Int) : Prop := (s.re l = -1 ∧ ∃ k : Nat, s.lv l = (k : Int) + 1 ∧ s.marks[k]? = some (i : Int)) ∨
  ∃ (id : Nat) (c : List Int) (f : Bool), s.re l = id ∧ s.cls[id]? = some (c, true, f) ∧ l ∈ c ∧ ∀ x ∈ c, x ≠ l → ∃ j, j < i ∧ s.trail[j]? = some (-x)
/-- What holds of the trail. -/
structure TrI (n : Nat) (s : PS) : Prop where
  len : PLen (n + 1) s
  ok : Vok s.vs
  rng : ∀ l ∈ s.trail, isL l n = true
  tr : ∀ l, val s.vs l = 1 ↔ l ∈ s.trail
  nd : s.trail.Nodup
  lv : ∀ l ∈ s.trail, 0 ≤ s.lv l ∧ s.lv l ≤ s.marks.length
  mks : ∀ (k : Nat) m, s.marks[k]? = some m → ∃ a : Nat, m = a ∧ (∃ l, s.trail[a]? = some l ∧ s.lv l = (k : Int) + 1) ∧ ∀ i l, s.trail[i]? = some l → (a ≤ i ↔ (k : Int) < s.lv l)
  rs : ∀ i l, s.trail[i]? = some l → s.Rs i l
/-- What holds of the clauses. -/
def ClI (n : Nat) (s : PS) : Prop := ∀ (id : Nat) c f, s.cls[id]? = some (c, true, f) → (∀ l ∈ c, isL l n = true) ∧ (c.map Int.natAbs).Nodup
theorem isL_ne {l : Int} {n : Nat} (h : isL l n = true) : l ≠ 0 ∧ l.natAbs ≤ n := by
  obtain ⟨h1, h2, h3⟩ := isL_iff.1 h
  exact ⟨h1, by omega⟩
theorem getD_set' {α : Type} {xs : List α} {i j : Nat} {a d : α} (hi : i < xs.length) : (xs.set i a).getD j d = if j = i then a else xs.getD j d := by
  rw [List.getD_eq_getElem?_getD, List.getElem?_set, List.getD_eq_getElem?_getD]
  by_cases e : i = j
  · subst e; simp [hi]
  · rw [if_neg e, if_neg (fun h => e h.symm)]
theorem get_len {α : Type} {xs : List α} {i : Nat} {a : α} (h : xs[i]? = some a) : i < xs.length := (List.getElem?_eq_some_iff.1 h).1
theorem get_ex {α : Type} {xs : List α} {i : Nat} (h : i < xs.length) : ∃ a : α, xs[i]? = some a := ⟨_, List.getElem?_eq_getElem h⟩
theorem mem_ix {α : Type} {xs : List α} {a : α} (h : a ∈ xs) : ∃ i : Nat, xs[i]? = some a := by
  obtain ⟨i, hi, e⟩ := List.getElem_of_mem h
  exact ⟨i, by rw [List.getElem?_eq_getElem hi, e]⟩
section
variable {n : Nat} {s s' : PS} {l x y : Int}
theorem TrI.neg (h : TrI n s) : val s.vs l = 2 ↔ -l ∈ s.trail := by
  rw [← h.tr, val_neg h.ok]
  have := val_ok h.ok l
  split <;> omega
theorem TrI.notBoth (h : TrI n s) (h1 : l ∈ s.trail) (h2 : -l ∈ s.trail) : False := by
  rw [← h.tr] at h1; rw [← h.neg] at h2; omega
theorem TrI.zero (h : TrI n s) : val s.vs l = 0 ↔ l ∉ s.trail ∧ -l ∉ s.trail := by
  rw [← h.tr, ← h.neg]
  have := val_ok h.ok l
  omega
theorem PS.lv_neg (s : PS) (l : Int) : s.lv (-l) = s.lv l := by simp [PS.lv]
theorem TrI.abs (h : TrI n s) (hx : x ∈ s.trail) (hy : y ∈ s.trail) (e : x.natAbs = y.natAbs) : x = y := by
  rcases Int.natAbs_eq_natAbs_iff.1 e with e | e
  · exact e
  · exfalso; rw [e] at hx; exact h.notBoth hy hx
/-- Levels rise along the trail. -/
theorem TrI.mono (h : TrI n s) {i j : Nat} (hij : i ≤ j) (hx : s.trail[i]? = some x) (hy : s.trail[j]? = some y) : s.lv x ≤ s.lv y := by
  refine Int.not_lt.1 fun hlt => ?_
  have h1 := h.lv x (List.mem_of_getElem? hx)
  have h2 := h.lv y (List.mem_of_getElem? hy)
  obtain ⟨m, hm⟩ := get_ex (xs := s.marks) (i := (s.lv y).toNat) (by omega)
  obtain ⟨a, _, _, h3⟩ := h.mks _ m hm
  have h4 := (h3 i x hx).2 (by omega)
  have h5 := (h3 j y hy).1 (by omega)
  omega
/-- Clauses are the same but for their literals' order. -/
def CEq (s s' : PS) : Prop := s'.cls.length = s.cls.length ∧ ∀ (id : Nat) a b, s.cls[id]? = some a → s'.cls[id]? = some b → b.2.1 = a.2.1 ∧ b.1.Perm a.1
theorem CEq.refl (s : PS) : CEq s s := ⟨rfl, fun id a b h1 h2 => by rw [h1] at h2; cases h2; exact ⟨rfl, .refl _⟩⟩
theorem CEq.trans {s1 s2 s3 : PS} (h : CEq s1 s2) (k : CEq s2 s3) : CEq s1 s3 := ⟨k.1.trans h.1, fun id a b h1 h2 => by
  obtain ⟨c, hc⟩ := get_ex (xs := s2.cls) (i := id) (by rw [h.1]; exact get_len h1)
  obtain ⟨e1, p1⟩ := h.2 id a c h1 hc
  obtain ⟨e2, p2⟩ := k.2 id c b hc h2
  exact ⟨e2.trans e1, p2.trans p1⟩⟩
theorem CEq.get (h : CEq s s') {id : Nat} {c : List Int} {b f : Bool} (hc : s.cls[id]? = some (c, b, f)) : ∃ c' f', s'.cls[id]? = some (c', b, f') ∧ c'.Perm c := by
  obtain ⟨⟨c', b', f'⟩, h2⟩ := get_ex (xs := s'.cls) (i := id) (by rw [h.1]; exact get_len hc)
  obtain ⟨e, p⟩ := h.2 id _ _ hc h2
  dsimp only at e p
  subst e
  exact ⟨c', f', h2, p⟩
theorem CEq.symm (h : CEq s s') : CEq s' s := ⟨h.1.symm, fun id a b h1 h2 => by
  obtain ⟨e, p⟩ := h.2 id b a h2 h1
  exact ⟨e.symm, p.symm⟩⟩
theorem CEq.put {id : Nat} {c c' : List Int} {b f f' : Bool} (hc : s.cls[id]? = some (c, b, f)) (p : c'.Perm c) : CEq s { s with cls := s.cls.set id (c', b, f') } := ⟨by simp, fun j a d h1 h2 => by
  simp only [List.getElem?_set] at h2
  by_cases e : id = j
  · subst e
    rw [if_pos rfl, if_pos (get_len hc)] at h2
    rw [hc] at h1
    cases h1; cases h2; exact ⟨rfl, p⟩
  · rw [if_neg e, h1] at h2; cases h2; exact ⟨rfl, .refl _⟩⟩
theorem ClI.ceq (h : ClI n s) (k : CEq s s') : ClI n s' := fun id c f hc => by
  obtain ⟨c', f', h1, p⟩ := k.symm.get hc
  obtain ⟨h2, h3⟩ := h id c' f' h1
  exact ⟨fun l hl => h2 l (p.mem_iff.2 hl), (p.map _).nodup_iff.1 h3⟩
/-- Other parts of the state have turned. -/
theorem TrI.same (h : TrI n s) (k : CEq s s') (e1 : s'.vs = s.vs) (e2 : s'.lev = s.lev) (e3 : s'.rea = s.rea) (e4 : s'.trail = s.trail) (e5 : s'.marks = s.marks) (e6 : s'.wat.length = s.wat.length) : TrI n s' := by
  have elv : ∀ l, s'.lv l = s.lv l := fun l => by simp [PS.lv, e2]
  have ere : ∀ l, s'.re l = s.re l := fun l => by simp [PS.re, e3]
  refine ⟨⟨by rw [e1]; exact h.len.vs, by rw [e2]; exact h.len.lev, by rw [e3]; exact h.len.rea, by rw [e6]; exact h.len.wat⟩, by rw [e1]; exact h.ok, by rw [e4]; exact h.rng, by rw [e1, e4]; exact h.tr, by rw [e4]; exact h.nd, fun l hl => ?_, fun k m hm => ?_, fun i l hl => ?_⟩
  · rw [e4] at hl; rw [elv, e5]; exact h.lv l hl
  · rw [e5] at hm
    obtain ⟨a, h1, h2, h3⟩ := h.mks k m hm
    refine ⟨a, h1, ?_, fun i l hl => ?_⟩
    · obtain ⟨l, h4, h5⟩ := h2
      exact ⟨l, by rw [e4]; exact h4, by rw [elv]; exact h5⟩
    · rw [e4] at hl; rw [elv]; exact h3 i l hl
  · rw [e4] at hl
    rcases h.rs i l hl with ⟨h1, k', h2, h3⟩ | ⟨id, c, f, h1, h2, h3, h4⟩
    · exact .inl ⟨by rw [ere]; exact h1, k', by rw [elv]; exact h2, by rw [e5]; exact h3⟩
    · obtain ⟨c', f', h5, p⟩ := k.get h2
      exact .inr ⟨id, c', f', by rw [ere]; exact h1, h5, p.mem_iff.2 h3, fun x hx hne => by rw [e4]; exact h4 x (p.mem_iff.1 hx) hne⟩
/-- A new true literal, in general. -/
theorem TrI.push (h : TrI n s) (M : List Int) (hM : M = s.marks ∨ M = s.marks ++ [(s.trail.length : Int)]) (hl : isL l n = true) (hv : val s.vs l = 0) {r : Int} (hs' : s' = { s with marks := M }.setL l r)
    (hr : s'.Rs s.trail.length l) : TrI n s' ∧ ∀ x, x.natAbs ≠ l.natAbs → s'.lv x = s.lv x := by
  obtain ⟨l0, ln⟩ := isL_ne hl
  obtain ⟨q1, q2, q3, q4⟩ := h.len
  obtain ⟨z1, z2⟩ := h.zero.1 hv
  have hne : ∀ x ∈ s.trail, x.natAbs ≠ l.natAbs := fun x hx e => by
    rcases Int.natAbs_eq_natAbs_iff.1 e with e | e
    · exact z1 (e ▸ hx)
    · exact z2 (e ▸ hx)
  have elv : ∀ x, x.natAbs ≠ l.natAbs → s'.lv x = s.lv x := fun x hx => by
    rw [hs']; simp only [PS.lv, PS.setL]
    rw [getD_set' (by omega), if_neg hx]
  have ere : ∀ x, x.natAbs ≠ l.natAbs → s'.re x = s.re x := fun x hx => by
    rw [hs']; simp only [PS.re, PS.setL]
    rw [getD_set' (by omega), if_neg hx]
  have elvl : s'.lv l = M.length := by
    rw [hs']; simp only [PS.lv, PS.setL]
    rw [getD_set' (by omega), if_pos rfl]
  have etr : s'.trail = s.trail ++ [l] := by rw [hs']; rfl
  have emk : s'.marks = M := by rw [hs']; rfl
  have ecl : s'.cls = s.cls := by rw [hs']; rfl
  have evs : s'.vs = setV s.vs l := by rw [hs']; rfl
  have hml : s.marks.length ≤ M.length := by rcases hM with e | e <;> rw [e] <;> simp
  have hold : ∀ i x, s'.trail[i]? = some x → (s.trail[i]? = some x ∧ i < s.trail.length ∧ x ≠ l ∧ x.natAbs ≠ l.natAbs) ∨ (i = s.trail.length ∧ x = l) := fun i x hi => by
    rw [etr] at hi
    rcases Nat.lt_trichotomy i s.trail.length with hlt | rfl | hlt
    · rw [List.getElem?_append_left hlt] at hi
      have hm := List.mem_of_getElem? hi
      exact .inl ⟨hi, hlt, fun e => z1 (e ▸ hm), hne x hm⟩
    · rw [List.getElem?_append_right (Nat.le_refl _)] at hi
      simp at hi
      exact .inr ⟨rfl, hi.symm⟩
    · have := get_len hi
      simp at this; omega
  have hget : ∀ i x, s.trail[i]? = some x → s'.trail[i]? = some x := fun i x hi => by
    rw [etr, List.getElem?_append_left (get_len hi)]; exact hi
  refine ⟨⟨⟨by rw [evs, setV_len]; exact q1, by rw [hs']; simp [PS.setL, q2], by rw [hs']; simp [PS.setL, q3], by rw [hs']; exact q4⟩, by rw [evs]; exact h.ok.set l, fun x hx => ?_, fun x => ?_, ?_, fun x hx => ?_, fun k m hm => ?_, fun i x hx => ?_⟩, elv⟩
  · rw [etr] at hx
    rcases List.mem_append.1 hx with hx | hx
    · exact h.rng x hx
    · rw [List.mem_singleton.1 hx]; exact hl
  · rw [evs, val_set l0 (by omega), etr]
    constructor
    · intro hx
      split at hx
      · rename_i e; simp [e]
      · split at hx
        · omega
        · exact List.mem_append.2 (.inl ((h.tr x).1 hx))
    · intro hx
      rcases List.mem_append.1 hx with hx | hx
      · rw [if_neg (fun e => z1 (by rw [← e]; exact hx)), if_neg (fun e => z2 (by rw [← e]; exact hx))]; exact (h.tr x).2 hx
      · rw [if_pos (List.mem_singleton.1 hx)]
  · rw [etr]
    exact List.nodup_append.2 ⟨h.nd, by simp, fun x hx y hy e => by
      rw [List.mem_singleton.1 hy] at e; exact z1 (e ▸ hx)⟩
  · rw [etr] at hx; rw [emk]
    rcases List.mem_append.1 hx with hx | hx
    · rw [elv x (hne x hx)]
      have := h.lv x hx
      omega
    · rw [List.mem_singleton.1 hx, elvl]; omega
  · have hcase : (s.marks[k]? = some m) ∨ (k = s.marks.length ∧ m = (s.trail.length : Int) ∧ M.length = s.marks.length + 1) := by
      rw [emk] at hm
      rcases hM with e | e
      · left; rw [e] at hm; exact hm
      · rw [e] at hm
        rcases Nat.lt_trichotomy k s.marks.length with hlt | rfl | hlt
        · left; rwa [List.getElem?_append_left hlt] at hm
        · right
          rw [List.getElem?_append_right (Nat.le_refl _)] at hm
          simp at hm
          exact ⟨rfl, hm.symm, by rw [e]; simp⟩
        · have := get_len hm
          simp at this; omega
    rcases hcase with hm | ⟨rfl, rfl, hML⟩
    · obtain ⟨a, h1, ⟨w, h2, h4⟩, h3⟩ := h.mks k m hm
      have := get_len hm
      refine ⟨a, h1, ⟨w, hget _ _ h2, by rw [elv w (hne w (List.mem_of_getElem? h2))]; exact h4⟩, fun i x hx => ?_⟩
      rcases hold i x hx with ⟨g1, g2, g3, g4⟩ | ⟨rfl, rfl⟩
      · rw [elv x g4]; exact h3 i x g1
      · rw [elvl]
        have := get_len h2
        omega
    · refine ⟨s.trail.length, rfl, ⟨l, by rw [etr]; simp, by rw [elvl, hML]; simp⟩, fun i x hx => ?_⟩
      rcases hold i x hx with ⟨g1, g2, g3, g4⟩ | ⟨rfl, rfl⟩
      · rw [elv x g4]
        have := h.lv x (List.mem_of_getElem? g1)
        omega
      · rw [elvl, hML]; omega
  · rcases hold i x hx with ⟨g1, g2, g3, g4⟩ | ⟨rfl, rfl⟩
    · rcases h.rs i x g1 with ⟨h1, k', h2, h3⟩ | ⟨id, c, f, h1, h2, h3, h4⟩
      · refine .inl ⟨by rw [ere x g4]; exact h1, k', by rw [elv x g4]; exact h2, ?_⟩
        rw [emk]
        rcases hM with e | e
        · rw [e]; exact h3
        · rw [e, List.getElem?_append_left (get_len h3)]; exact h3
      · refine .inr ⟨id, c, f, by rw [ere x g4]; exact h1, by rw [ecl]; exact h2, h3, fun y hy hne => ?_⟩
        obtain ⟨j, hj, g⟩ := h4 y hy hne
        exact ⟨j, hj, hget _ _ g⟩
    · exact hr
theorem TrI.set (h : TrI n s) {id : Nat} {c : List Int} {f : Bool} (hc : s.cls[id]? = some (c, true, f)) (hlc : l ∈ c) (hl : isL l n = true) (hv : val s.vs l = 0) (hf : ∀ x ∈ c, x ≠ l → val s.vs x = 2) : TrI n (s.setL l id) := by
  have q2 := h.len.lev
  have q3 := h.len.rea
  have := isL_ne hl
  refine (h.push s.marks (.inl rfl) hl hv (r := id) rfl (.inr ⟨id, c, f, ?_, hc, hlc, fun x hx hne => ?_⟩)).1
  · simp only [PS.re, PS.setL]; rw [getD_set' (by omega), if_pos rfl]
  · obtain ⟨j, hj⟩ := mem_ix (h.neg.1 (hf x hx hne))
    exact ⟨j, get_len hj, by simp only [PS.setL]; rw [List.getElem?_append_left (get_len hj)]; exact hj⟩
theorem setL_lv (h : TrI n s) (hl : isL l n = true) (hv : val s.vs l = 0) {r : Int} : (∀ x ∈ s.trail, (s.setL l r).lv x = s.lv x) ∧ (s.setL l r).lv l = s.marks.length := by
  obtain ⟨l0, ln⟩ := isL_ne hl
  have q2 := h.len.lev
  obtain ⟨z1, z2⟩ := h.zero.1 hv
  refine ⟨fun x hx => ?_, ?_⟩
  · simp only [PS.lv, PS.setL]
    rw [getD_set' (by omega), if_neg fun e => ?_]
    rcases Int.natAbs_eq_natAbs_iff.1 e with e | e
    · exact z1 (e ▸ hx)
    · exact z2 (e ▸ hx)
  · simp only [PS.lv, PS.setL]
    rw [getD_set' (by omega), if_pos rfl]
end
end Go.Proofs.YtekehmgfedmflaaDoor.A

/- The engine's propagation: watches. -/
namespace Go.Proofs.YtekehmgfedmflaaDoor.A
open Go
def PS.rank (s : PS) (l : Int) : Int := if val s.vs l = 2 then s.lv l else s.marks.length + 1
/-- The loose ones are those that are marked so. -/
structure LoI (s : PS) (P : List Int) : Prop where
  nd : (P ++ s.loose).Nodup
  fl : ∀ x ∈ P ++ s.loose, ∃ (id : Nat) (c : List Int) (b : Bool), x = id ∧ s.cls[id]? = some (c, b, true)
  lf : ∀ (id : Nat) c b, s.cls[id]? = some (c, b, true) → (id : Int) ∈ P ++ s.loose
/-- Each clause is watched at its first two literals. -/
def WaI (s : PS) (P : Int → Int → Prop) : Prop := ∀ (id : Nat) c f, s.cls[id]? = some (c, true, f) → 2 ≤ c.length → ∀ i x, i < 2 → c[i]? = some x → (id : Int) ∈ s.wat.getD (wAt x) [] ∨ P x id
/-- What may stand in a list of watches. -/
def WaE (s : PS) (e : Int) : Prop := ∃ (id : Nat) (c : List Int) (b f : Bool), e = id ∧ s.cls[id]? = some (c, b, f) ∧ (b = true → 2 ≤ c.length)
def WaR (s : PS) : Prop := ∀ w ∈ s.wat, ∀ e ∈ w, WaE s e
/-- A clause of which a watch is false: the other one is true. -/
structure JuC (s : PS) (h : Nat) (c : List Int) : Prop where
  ne : c ≠ []
  one : ∀ x, c = [x] → x ∈ s.trail ∧ s.lv x = 0
  two : ∀ i x y, i < 2 → c[i]? = some x → c[1 - i]? = some y → (∃ j, j < h ∧ s.trail[j]? = some (-x)) → y ∈ s.trail ∧ s.lv y ≤ s.lv x
def JuI (s : PS) (h : Nat) : Prop := ∀ (id : Nat) c, s.cls[id]? = some (c, true, false) → JuC s h c
/-- How many watches there are. -/
def PS.ent (s : PS) : Nat := (s.wat.map List.length).sum
/-- More may be true. -/
structure PEx (s s' : PS) : Prop where
  ceq : CEq s s'
  tr : ∃ e, s'.trail = s.trail ++ e
  lv : ∀ x ∈ s.trail, s'.lv x = s.lv x
  mks : s'.marks = s.marks
theorem PEx.refl (s : PS) : PEx s s := ⟨CEq.refl s, ⟨[], by simp⟩, fun _ _ => rfl, rfl⟩
theorem PEx.trans {s1 s2 s3 : PS} (h : PEx s1 s2) (k : PEx s2 s3) : PEx s1 s3 := by
  obtain ⟨e, he⟩ := h.tr
  obtain ⟨d, hd⟩ := k.tr
  exact ⟨h.ceq.trans k.ceq, ⟨e ++ d, by rw [hd, he, List.append_assoc]⟩, fun x hx => by rw [k.lv x (by rw [he]; simp [hx]), h.lv x hx], k.mks.trans h.mks⟩
theorem wAt_inj {x l : Int} (h : wAt x = wAt l) : x = l := by
  unfold wAt at h
  split at h <;> split at h <;> omega
theorem wAt_lt {l : Int} {n : Nat} (h : isL l n = true) : wAt l < 2 * (n + 1) := by
  have := isL_iff.1 h
  unfold wAt
  split <;> omega
section
variable {n h id : Nat} {s s' : PS} {l x y e : Int} {c : List Int} {P : Int → Int → Prop}
theorem PEx.mem (E : PEx s s') (hx : x ∈ s.trail) : x ∈ s'.trail := by
  obtain ⟨e, he⟩ := E.tr
  rw [he]; simp [hx]
theorem PEx.get (E : PEx s s') {i : Nat} (hx : s.trail[i]? = some x) : s'.trail[i]? = some x := by
  obtain ⟨e, he⟩ := E.tr
  rw [he, List.getElem?_append_left (get_len hx)]; exact hx
theorem PEx.got (E : PEx s s') {i : Nat} (hi : i < s.trail.length) (hx : s'.trail[i]? = some x) : s.trail[i]? = some x := by
  obtain ⟨e, he⟩ := E.tr
  rwa [he, List.getElem?_append_left hi] at hx
theorem PEx.lenT (E : PEx s s') : s.trail.length ≤ s'.trail.length := by
  obtain ⟨e, he⟩ := E.tr
  rw [he]; simp
theorem PEx.setL (h : TrI n s) (hl : isL l n = true) (hv : val s.vs l = 0) (r : Int) : PEx s (s.setL l r) := ⟨⟨rfl, (CEq.refl s).2⟩, ⟨[l], rfl⟩, (setL_lv h hl hv).1, rfl⟩
theorem PEx.same (k : CEq s s') (e2 : s'.lev = s.lev) (e4 : s'.trail = s.trail) (e5 : s'.marks = s.marks) : PEx s s' := ⟨k, ⟨[], by simp [e4]⟩, fun x _ => by simp [PS.lv, e2], e5⟩
theorem JuC.ext (hc : JuC s h c) (E : PEx s s') (hh : h ≤ s.trail.length) : JuC s' h c := ⟨hc.ne, fun x hx => by
  obtain ⟨h1, h2⟩ := hc.one x hx
  exact ⟨E.mem h1, by rw [E.lv x h1]; exact h2⟩, fun i x y hi h1 h2 ⟨j, hj, h3⟩ => by
  have h4 := E.got (by omega) h3
  obtain ⟨h5, h6⟩ := hc.two i x y hi h1 h2 ⟨j, hj, h4⟩
  have h7 := E.lv (-x) (List.mem_of_getElem? h4)
  rw [PS.lv_neg, PS.lv_neg] at h7
  exact ⟨E.mem h5, by rw [E.lv y h5, h7]; exact h6⟩⟩
theorem JuI.upd (hJ : JuI s h) (E : PEx s s') (hh : h ≤ s.trail.length) (ho : ∀ j, j ≠ id → s'.cls[j]? = s.cls[j]?) (hi : ∀ c, s'.cls[id]? = some (c, true, false) → JuC s' h c) : JuI s' h := fun j c hc => by
  by_cases e : j = id
  · subst e; exact hi c hc
  · rw [ho j e] at hc
    exact (hJ j c hc).ext E hh
theorem WaI.upd (hW : WaI s P) {P' : Int → Int → Prop} (ho : ∀ j, j ≠ id → s'.cls[j]? = s.cls[j]?) (hw : ∀ x e, e ∈ s.wat.getD (wAt x) [] → e ∈ s'.wat.getD (wAt x) []) (hP : ∀ x (j : Nat), j ≠ id → P x j → (j : Int) ∈ s'.wat.getD (wAt x) [] ∨ P' x j)
    (hi : ∀ c f, s'.cls[id]? = some (c, true, f) → 2 ≤ c.length → ∀ i x, i < 2 → c[i]? = some x → (id : Int) ∈ s'.wat.getD (wAt x) [] ∨ P' x id) : WaI s' P' := fun j c f hc hl i x hi2 hx => by
  by_cases e : j = id
  · subst e; exact hi c f hc hl i x hi2 hx
  · rw [ho j e] at hc
    rcases hW j c f hc hl i x hi2 hx with h1 | h1
    · exact .inl (hw _ _ h1)
    · exact hP x j e h1
theorem getD_mem {α : Type} {xs : List (List α)} {i : Nat} {a : α} (h : a ∈ xs.getD i []) : xs.getD i [] ∈ xs := by
  rw [List.getD_eq_getElem?_getD] at h ⊢
  cases hx : xs[i]? with
  | none => rw [hx] at h; cases h
  | some w => exact List.mem_of_getElem? hx
theorem watch_mem (hl : wAt l < s.wat.length) : e ∈ (s.watch l id).wat.getD (wAt x) [] ↔ e ∈ s.wat.getD (wAt x) [] ∨ (x = l ∧ e = id) := by
  simp only [PS.watch]
  rw [getD_set' hl]
  by_cases k : x = l
  · subst k; simp
  · rw [if_neg fun q => k (wAt_inj q)]; simp [k]
theorem sum_set {ws : List (List Int)} {i : Nat} {w : List Int} (hi : i < ws.length) : ((ws.set i w).map List.length).sum + (ws.getD i []).length = (ws.map List.length).sum + w.length := by
  induction ws generalizing i with
  | nil => simp at hi
  | cons a t ih =>
    cases i with
    | zero => simp; omega
    | succ i =>
      have := ih (i := i) (by simpa using hi)
      simp at this ⊢; omega
theorem watch_ent (hl : wAt l < s.wat.length) : (s.watch l id).ent = s.ent + 1 := by
  have := sum_set (w := s.wat.getD (wAt l) [] ++ [(id : Int)]) hl
  simp only [PS.ent, PS.watch]
  simp at this ⊢; omega
theorem ent_le {w : List Int} (hw : w ∈ s.wat) : w.length ≤ s.ent := by
  unfold PS.ent
  generalize s.wat = ws at hw
  induction ws with
  | nil => cases hw
  | cons a t ih =>
    rcases List.mem_cons.1 hw with rfl | hw
    · simp
    · have := ih hw
      simp; omega
theorem WaE.ceq (h : WaE s e) (k : CEq s s') : WaE s' e := by
  obtain ⟨id, c, b, f, h1, h2, h3⟩ := h
  obtain ⟨c', f', h4, p⟩ := k.get h2
  exact ⟨id, c', b, f', h1, h4, fun hb => by rw [p.length_eq]; exact h3 hb⟩
theorem WaR.watch (hR : WaR s) (hi : WaE s id) : WaR (s.watch l id) := fun w hw e he => by
  have key : WaE s e := by
    simp only [PS.watch] at hw
    rcases List.mem_or_eq_of_mem_set hw with hw | rfl
    · exact hR w hw e he
    · rcases List.mem_append.1 he with he | he
      · exact hR _ (getD_mem he) e he
      · rw [List.mem_singleton.1 he]; exact hi
  exact key
/-! ### Swaps -/
def swapL (c : List Int) (i j : Nat) : List Int := (c.set i (c.getD j 0)).set j (c.getD i 0)
theorem swapL_perm {i j : Nat} (hi : i < c.length) (hj : j < c.length) : (swapL c i j).Perm c := by
  have h1 := Array.swap_perm (xs := c.toArray) (i := i) (j := j) (by simpa using hi) (by simpa using hj)
  have h2 := h1.toList
  rw [Array.toList_swap] at h2
  unfold swapL
  rw [List.getD_eq_getElem?_getD, List.getD_eq_getElem?_getD, List.getElem?_eq_getElem hi, List.getElem?_eq_getElem hj]
  simpa using h2
theorem swapL_len {i j : Nat} : (swapL c i j).length = c.length := by simp [swapL]
theorem swapL_get {i j k : Nat} (hi : i < c.length) (hj : j < c.length) : (swapL c i j)[k]? = if k = j then c[i]? else if k = i then c[j]? else c[k]? := by
  have h1 : c.getD i 0 = c[i] := by rw [List.getD_eq_getElem?_getD, List.getElem?_eq_getElem hi]; rfl
  have h2 : c.getD j 0 = c[j] := by rw [List.getD_eq_getElem?_getD, List.getElem?_eq_getElem hj]; rfl
  unfold swapL
  rw [h1, h2, List.getElem?_set, List.getElem?_set]
  by_cases e : k = j
  · subst e
    rw [if_pos rfl, if_pos rfl, if_pos (by simpa using hj), List.getElem?_eq_getElem hi]
  · rw [if_neg e, if_neg (c := j = k) fun h => e h.symm]
    by_cases e2 : k = i
    · subst e2
      rw [if_pos rfl, if_pos rfl, if_pos hi, List.getElem?_eq_getElem hj]
    · rw [if_neg e2, if_neg (c := i = k) fun h => e2 h.symm]
end
end Go.Proofs.YtekehmgfedmflaaDoor.A

/- The engine's propagation: looked at anew, the plain law. -/
namespace Go.Proofs.YtekehmgfedmflaaDoor.A
open Go
/-- New watches, and nothing else. -/
structure WaX (s s1 : PS) (id : Nat) (nw : List Int) : Prop where
  eq : s1 = { s with wat := s1.wat }
  len : s1.wat.length = s.wat.length
  mem : ∀ x e, e ∈ s1.wat.getD (wAt x) [] ↔ e ∈ s.wat.getD (wAt x) [] ∨ (x ∈ nw ∧ e = id)
  ent : s1.ent = s.ent + nw.length
  wr : (nw ≠ [] → WaE s id) → WaR s → WaR s1
/-- The first two are the best ones. -/
def Bst (s : PS) (c : List Int) : Prop := ∀ i j x y, i < 2 → i ≤ j → c[i]? = some x → c[j]? = some y → s.rank y ≤ s.rank x
section
variable {n id : Nat} {s s0 s1 s' : PS} {l x y e out : Int} {c c' nw P : List Int} {b f g : Bool}
theorem WaX.refl (s : PS) (id : Nat) : WaX s s id [] := ⟨rfl, rfl, by simp, by simp, fun _ h => h⟩
theorem WaX.watch (h : WaX s s1 id nw) (hl : wAt l < s.wat.length) : WaX s (s1.watch l id) id (nw ++ [l]) := by
  have hl1 : wAt l < s1.wat.length := by rw [h.len]; exact hl
  have hc : s1.cls = s.cls := by rw [h.eq]
  refine ⟨?_, ?_, fun x e => ?_, ?_, fun hi hR => ?_⟩
  · have := h.eq
    rw [PS.watch, this]
  · simp [PS.watch, h.len]
  · rw [watch_mem hl1, h.mem]; simp [or_assoc, or_and_right]
  · rw [watch_ent hl1, h.ent]; simp; omega
  · have hi := hi (by simp)
    exact (h.wr (fun _ => hi) hR).watch (by obtain ⟨id, c, b, f, h1, h2, h3⟩ := hi; exact ⟨id, c, b, f, h1, by rw [hc]; exact h2, h3⟩)
/-- Looked at anew: what is the case. -/
structure AgI (n : Nat) (s0 s : PS) (P : List Int) (out : Int) : Prop where
  ti : TrI n s
  ci : ClI n s
  li : LoI s P
  wi : WaI s fun _ _ => False
  wr : WaR s
  hd : s.head = s0.head
  ji : ∀ h : Nat, s0.head = h → h ≤ s0.trail.length ∧ JuI s h
  ex : PEx s0 s
  en : s.ent + 2 * (P.length + s.loose.length) ≤ s0.ent + 2 * s0.loose.length + (if out = -1 then 0 else 2)
  o1 : out = -1 → s.loose = []
  o2 : out ≠ -1 → s.marks = [] ∧ ∃ (id : Nat) (c : List Int) (f : Bool), out = id ∧ s.cls[id]? = some (c, true, f) ∧ ∀ x ∈ c, val s.vs x = 2
/-- A new clause, of which one literal follows at the last level. -/
def Ready (s : PS) (id : Nat) : Prop := ∃ c f, s.cls[id]? = some (c, true, f) ∧ ∃ l ∈ c, val s.vs l = 0 ∧ (∀ x ∈ c, x ≠ l → val s.vs x = 2) ∧ (2 ≤ c.length → ∃ x ∈ c, x ≠ l ∧ s.lv x = s.marks.length) ∧ (c.length = 1 → s.marks = [])
theorem TrI.rank_le (h : TrI n s) (hx : val s.vs x = 2) : s.rank x = s.lv x ∧ 0 ≤ s.lv x ∧ s.lv x ≤ s.marks.length := by
  have := h.lv (-x) (h.neg.1 hx)
  rw [PS.lv_neg] at this
  exact ⟨by simp [PS.rank, hx], this⟩
theorem rank_top (hx : val s.vs x ≠ 2) : s.rank x = s.marks.length + 1 := by simp [PS.rank, hx]
/-- Its watches are new, it is not loose any more. -/
structure AnI (s s1 : PS) (id : Nat) (c c' nw : List Int) : Prop where
  hc : s.cls[id]? = some (c, true, true)
  pm : c'.Perm c
  bst : Bst s c'
  wx : WaX { s with cls := s.cls.set id (c', true, false) } s1 id nw
  n2 : nw ≠ [] → 2 ≤ c.length
  nl : nw.length ≤ 2
  tk : ∀ x ∈ c'.take 2, x ∈ nw ∨ x ∈ c.take 2
theorem AnI.ff (h : AnI s s1 id c c' nw) : s1.vs = s.vs ∧ s1.lev = s.lev ∧ s1.rea = s.rea ∧ s1.trail = s.trail ∧ s1.marks = s.marks ∧ s1.head = s.head ∧ s1.loose = s.loose ∧ s1.cls = s.cls.set id (c', true, false) ∧ s1.wat.length = s.wat.length := by
  have h1 := h.wx.eq
  have h2 := h.wx.len
  rw [h1]
  exact ⟨rfl, rfl, rfl, rfl, rfl, rfl, rfl, rfl, h2⟩
theorem AnI.base (h : AnI s s1 id c c' nw) (A : AgI n s0 s ((id : Int) :: P) (-1)) :
    TrI n s1 ∧ ClI n s1 ∧ LoI s1 P ∧ (WaI s1 fun _ _ => False) ∧ WaR s1 ∧ PEx s s1 ∧ s1.ent ≤ s.ent + 2 ∧ s1.cls[id]? = some (c', true, false) ∧ (∀ j, j ≠ id → s1.cls[j]? = s.cls[j]?) ∧ (∀ k : Nat, s0.head = k → k ≤ s.trail.length) ∧ s.loose = [] ∧ (id : Int) ∉ P := by
  obtain ⟨f1, f2, f3, f4, f5, f6, f7, f8, f9⟩ := h.ff
  have hlt := get_len h.hc
  have hE : CEq s s1 := by
    have := CEq.put (f' := false) h.hc h.pm
    exact ⟨by rw [f8]; simp, fun j a d h1 h2 => this.2 j a d h1 (by rw [f8] at h2; exact h2)⟩
  have hid : s1.cls[id]? = some (c', true, false) := by rw [f8, List.getElem?_set, if_pos rfl, if_pos hlt]
  have hoth : ∀ j, j ≠ id → s1.cls[j]? = s.cls[j]? := fun j hj => by rw [f8, List.getElem?_set, if_neg fun e => hj e.symm]
  have hlo := A.o1 rfl
  have hnd := A.li.nd
  rw [hlo, List.append_nil] at hnd
  obtain ⟨hni, hndP⟩ := List.nodup_cons.1 hnd
  have hT : TrI n s1 := A.ti.same hE f1 f2 f3 f4 f5 f9
  refine ⟨hT, A.ci.ceq hE, ⟨by rw [f7, hlo, List.append_nil]; exact hndP, fun x hx => ?_, fun j d b hj => ?_⟩, ?_, ?_, PEx.same hE f2 f4 f5, ?_, hid, hoth, fun k hk => ?_, hlo, hni⟩
  · rw [f7, hlo, List.append_nil] at hx
    obtain ⟨j, d, b, e, h2⟩ := A.li.fl x (by simp [hx])
    refine ⟨j, d, b, e, ?_⟩
    rw [hoth j fun q => hni (by rw [← q, ← e]; exact hx)]; exact h2
  · by_cases e : j = id
    · subst e; rw [hid] at hj; cases hj
    · rw [hoth j e] at hj
      have := A.li.lf j d b hj
      rw [hlo, List.append_nil] at this
      rw [f7, hlo, List.append_nil]
      rcases List.mem_cons.1 this with q | q
      · exact absurd (Int.ofNat.inj q) e
      · exact q
  · refine A.wi.upd (id := id) hoth (fun x e he => (h.wx.mem x e).2 (.inl he)) (fun x j _ q => q.elim) fun d f hd hl i x hi hx => ?_
    rw [hid] at hd; cases hd
    have hx2 : x ∈ c'.take 2 := List.mem_of_getElem? (i := i) (by rw [List.getElem?_take_of_lt hi]; exact hx)
    rcases h.tk x hx2 with q | q
    · exact .inl ((h.wx.mem x id).2 (.inr ⟨q, rfl⟩))
    · obtain ⟨k, hk⟩ := mem_ix q
      have hk2 : k < 2 := by have := get_len hk; simp at this; omega
      rw [List.getElem?_take_of_lt hk2] at hk
      rcases A.wi id c true h.hc (by rw [← h.pm.length_eq]; exact hl) k x hk2 hk with q | q
      · exact .inl ((h.wx.mem x id).2 (.inl q))
      · exact q.elim
  · have hE2 := CEq.put (f' := false) h.hc h.pm
    have hW2 : WaR { s with cls := s.cls.set id (c', true, false) } := fun w hw e he => (A.wr w hw e he).ceq hE2
    exact h.wx.wr (fun hnw => ⟨id, c', true, false, rfl, by simp [hlt], fun _ => by rw [h.pm.length_eq]; exact h.n2 hnw⟩) hW2
  · have := h.wx.ent
    have h2 := h.nl
    have h3 : PS.ent { s with cls := s.cls.set id (c', true, false) } = s.ent := rfl
    omega
  · exact Nat.le_trans (A.ji k hk).1 A.ex.lenT
/-- It is false. -/
theorem AgI.bad (A : AgI n s0 s ((id : Int) :: P) (-1)) (h : AnI s s1 id c c' nw) (hm : s.marks = []) (hf : ∀ x ∈ c', val s.vs x = 2) : AgI n s0 (s1.look id) P id := by
  obtain ⟨f1, f2, f3, f4, f5, f6, f7, f8, f9⟩ := h.ff
  obtain ⟨b1, b2, b3, b4, b5, b6, b7, b8, b9, b10, b11, b12⟩ := h.base A
  have hL : s1.look id = { s1 with cls := s1.cls.set id (c', true, true), loose := s1.loose ++ [(id : Int)] } := by unfold PS.look; rw [b8]
  have hlt := get_len b8
  have hE : CEq s1 (s1.look id) := by
    have := CEq.put (f' := true) b8 (.refl c')
    rw [hL]
    exact ⟨by simp, this.2⟩
  have hid : (s1.look id).cls[id]? = some (c', true, true) := by rw [hL]; simp [hlt]
  have hoth : ∀ j, j ≠ id → (s1.look id).cls[j]? = s1.cls[j]? := fun j hj => by rw [hL]; show (s1.cls.set id (c', true, true))[j]? = _; rw [List.getElem?_set, if_neg fun e => hj e.symm]
  have eloose : (s1.look id).loose = [(id : Int)] := by rw [hL]; simp [f7, b11]
  have hEx : PEx s1 (s1.look id) := PEx.same hE (by rw [hL]) (by rw [hL]) (by rw [hL])
  have hJE := b6.trans hEx
  refine ⟨b1.same hE (by rw [hL]) (by rw [hL]) (by rw [hL]) (by rw [hL]) (by rw [hL]) (by rw [hL]), b2.ceq hE, ⟨?_, fun x hx => ?_, fun j d b hj => ?_⟩, ?_, ?_, ?_, fun k hk => ⟨(A.ji k hk).1, ?_⟩, A.ex.trans hJE, ?_, fun e => by omega, fun _ => ⟨?_, id, c', true, rfl, hid, ?_⟩⟩
  · rw [eloose]
    have := A.li.nd
    rw [b11, List.append_nil] at this
    exact List.nodup_append.2 ⟨(List.nodup_cons.1 this).2, by simp, fun x hx y hy e => b12 (by rw [List.mem_singleton.1 hy] at e; rw [← e]; exact hx)⟩
  · rw [eloose] at hx
    rcases List.mem_append.1 hx with hx | hx
    · obtain ⟨j, d, b, e, h2⟩ := b3.fl x (by simp [hx])
      exact ⟨j, d, b, e, by rw [hoth j fun q => b12 (by rw [← q, ← e]; exact hx)]; exact h2⟩
    · exact ⟨id, c', true, List.mem_singleton.1 hx, hid⟩
  · rw [eloose]
    by_cases e : j = id
    · subst e; simp
    · rw [hoth j e] at hj
      have := b3.lf j d b hj
      rw [f7, b11, List.append_nil] at this
      simp [this]
  · refine b4.upd (id := id) hoth (fun x e he => by rw [hL]; exact he) (fun _ _ _ q => q.elim) fun d f hd hl i x hi hx => ?_
    rw [hid] at hd; cases hd
    rcases b4 id c' false b8 hl i x hi hx with q | q
    · left; rw [hL]; exact q
    · exact q.elim
  · intro w hw e he
    rw [hL] at hw
    exact (b5 w hw e he).ceq hE
  · rw [hL]; show s1.head = _; rw [f6]; exact A.hd
  · refine (A.ji k hk).2.upd (id := id) hJE (b10 k hk) (fun j hj => by rw [hoth j hj, b9 j hj]) fun d hd => ?_
    rw [hid] at hd; cases hd
  · have h1 := A.en
    have h2 : (s1.look id).ent = s1.ent := by rw [hL]; rfl
    rw [eloose, h2, if_neg (by omega)]
    rw [if_pos rfl, b11] at h1
    simp at h1 ⊢; omega
  · rw [hL]; show s1.marks = []; rw [f5]; exact hm
  · intro x hx
    rw [hL]; show val s1.vs x = 2; rw [f1]; exact hf x hx
/-- It is not, and need not be looked at again. -/
theorem AgI.good (A : AgI n s0 s ((id : Int) :: P) (-1)) (h : AnI s s1 id c c' nw) (E : PEx s1 s') (ht : TrI n s') (e1 : s'.cls = s1.cls) (e2 : s'.wat = s1.wat) (e3 : s'.head = s1.head) (e4 : s'.loose = s1.loose) (hJ : ∀ k : Nat, k ≤ s.trail.length → JuC s' k c') : AgI n s0 s' P (-1) := by
  obtain ⟨f1, f2, f3, f4, f5, f6, f7, f8, f9⟩ := h.ff
  obtain ⟨b1, b2, b3, b4, b5, b6, b7, b8, b9, b10, b11, b12⟩ := h.base A
  refine ⟨ht, fun j d f hd => b2 j d f (by rw [← e1]; exact hd), ⟨by rw [e4]; exact b3.nd, fun x hx => ?_, fun j d b hj => ?_⟩, ?_, ?_, by rw [e3, f6]; exact A.hd, fun k hk => ⟨(A.ji k hk).1, ?_⟩, A.ex.trans (b6.trans E), ?_, fun _ => by rw [e4, f7]; exact b11, fun q => absurd rfl q⟩
  · rw [e4] at hx; rw [e1]; exact b3.fl x hx
  · rw [e1] at hj; rw [e4]; exact b3.lf j d b hj
  · intro j d f hd hl i x hi hx
    rw [e1] at hd; rw [e2]; exact b4 j d f hd hl i x hi hx
  · intro w hw e he
    rw [e2] at hw
    obtain ⟨j, d, b, g, h1, h2, h3⟩ := b5 w hw e he
    exact ⟨j, d, b, g, h1, by rw [e1]; exact h2, h3⟩
  · refine (A.ji k hk).2.upd (id := id) (b6.trans E) (b10 k hk) (fun j hj => by rw [e1, b9 j hj]) fun d hd => ?_
    rw [e1, b8] at hd; cases hd
    exact hJ k (b10 k hk)
  · have h1 := A.en
    have h2 : s'.ent = s1.ent := by simp only [PS.ent, e2]
    rw [e4, f7, b11, h2, if_pos rfl]
    rw [if_pos rfl, b11] at h1
    simp at h1 ⊢; omega
end
end Go.Proofs.YtekehmgfedmflaaDoor.A

/- The engine's propagation: the watches of a literal that is false, the plain law. -/
namespace Go.Proofs.YtekehmgfedmflaaDoor.A
open Go
/-- The state when nothing is loose. -/
structure PrI (n : Nat) (s : PS) : Prop where
  ti : TrI n s
  ci : ClI n s
  li : LoI s []
  lo : s.loose = []
  wi : WaI s fun _ _ => False
  wr : WaR s
  hd : ∃ h : Nat, s.head = h ∧ h ≤ s.trail.length ∧ (∀ m ∈ s.marks, m ≤ (h : Int)) ∧ JuI s h
/-- A literal's watches are looked at: what is the case. -/
structure FaI (n : Nat) (s0 s : PS) (h : Nat) (f : Int) (stay R : List Int) (out : Int) : Prop where
  ti : TrI n s
  ci : ClI n s
  li : LoI s []
  lo : s.loose = []
  wi : WaI s fun x id => x = f ∧ id ∈ stay ++ R
  wr : WaR s
  sr : ∀ e ∈ stay ++ R, WaE s e
  hd : s.head = s0.head
  fh : s.trail[h]? = some (-f)
  fl : s.lv f = s.marks.length
  ji : JuI s h
  ki : out = -1 → ∀ (id : Nat) c fl, s.cls[id]? = some (c, true, fl) → ∀ i y, i < 2 → c[i]? = some f → c[1 - i]? = some y → (id : Int) ∈ R ∨ (y ∈ s.trail ∧ s.lv y ≤ s.lv f)
  o2 : out ≠ -1 → ∃ (id : Nat) (c : List Int) (fl : Bool), out = id ∧ s.cls[id]? = some (c, true, fl) ∧ f ∈ c ∧ ∀ x ∈ c, val s.vs x = 2
  ex : PEx s0 s
  en : s.ent + stay.length + R.length ≤ s0.ent
section
variable {n id h : Nat} {s s0 s' : PS} {l x y z e f out out' : Int} {c c' stay stay' R : List Int} {b fl : Bool}
theorem LoI.flag (h : LoI s []) (hl : s.loose = []) (hc : s.cls[id]? = some (c, b, fl)) : fl = false := by
  cases fl with
  | false => rfl
  | true => have := h.lf id c b hc; rw [hl] at this; cases this
theorem FaI.start (A : PrI n s) (hh : s.head = (h : Int)) (hf : s.trail[h]? = some (-f)) (hb : wAt f < s.wat.length) : FaI n s { s with wat := s.wat.set (wAt f) [] } h f [] (s.wat.getD (wAt f) []) (-1) := by
  obtain ⟨k, e1, e2, e3, e4⟩ := A.hd
  have e5 : k = h := by omega
  subst e5
  have hE : CEq s { s with wat := s.wat.set (wAt f) [] } := ⟨rfl, (CEq.refl s).2⟩
  have hlv := A.ti.lv _ (List.mem_of_getElem? hf)
  have hlf : s.lv f = s.marks.length := by
    rw [PS.lv_neg] at hlv
    by_cases hm : s.marks.length = 0
    · omega
    · obtain ⟨m, hm2⟩ := get_ex (xs := s.marks) (i := s.marks.length - 1) (by omega)
      obtain ⟨a, g1, _, g3⟩ := A.ti.mks _ m hm2
      have := e3 m (List.mem_of_getElem? hm2)
      have := (g3 k _ hf).1 (by omega)
      rw [PS.lv_neg] at this
      omega
  have hmem : ∀ x e, e ∈ (s.wat.set (wAt f) ([] : List Int)).getD (wAt x) [] ↔ e ∈ s.wat.getD (wAt x) [] ∧ x ≠ f := fun x e => by
    rw [getD_set' hb]
    by_cases q : x = f
    · subst q; simp
    · rw [if_neg fun w => q (wAt_inj w)]; simp [q]
  refine ⟨A.ti.same hE rfl rfl rfl rfl rfl (by simp), A.ci.ceq hE, ⟨A.li.nd, A.li.fl, A.li.lf⟩, A.lo, ?_, fun w hw e he => ?_, fun e he => ?_, rfl, hf, hlf, fun j d hd => ?_, fun _ j d g hd i y hi h1 h2 => ?_, fun q => absurd rfl q, PEx.same hE rfl rfl rfl, ?_⟩
  · intro j d g hd hl i x hi hx
    rcases A.wi j d g hd hl i x hi hx with q | q
    · by_cases e : x = f
      · subst e; exact .inr ⟨rfl, by simpa using q⟩
      · exact .inl ((hmem x j).2 ⟨q, e⟩)
    · exact q.elim
  · have key : WaE s e := by
      rcases List.mem_or_eq_of_mem_set hw with hw | rfl
      · exact A.wr w hw e he
      · cases he
    exact key
  · exact A.wr _ (getD_mem (by simpa using he)) e (by simpa using he)
  · exact (e4 j d hd).ext (PEx.same hE rfl rfl rfl) e2
  · have hl2 : 2 ≤ d.length := by have := get_len h1; have := get_len h2; omega
    rcases A.wi j d g hd hl2 i f hi h1 with q | q
    · exact .inl q
    · exact q.elim
  · have := sum_set (w := []) hb
    simp only [PS.ent]
    simp at this ⊢; omega
/-- A clause that is not watched there. -/
theorem FaI.skip (A : FaI n s0 s h f stay ((id : Int) :: R) (-1)) (hs : ∀ c fl, s.cls[id]? = some (c, true, fl) → ∀ i, i < 2 → c[i]? ≠ some f) : FaI n s0 s h f stay R (-1) := by
  refine ⟨A.ti, A.ci, A.li, A.lo, fun j d g hd hl i x hi hx => ?_, A.wr, fun e he => A.sr e (by simp at he ⊢; rcases he with q | q <;> simp [q]), A.hd, A.fh, A.fl, A.ji, fun q j d g hd i y hi h1 h2 => ?_, A.o2, A.ex, by have := A.en; simp at this; omega⟩
  · rcases A.wi j d g hd hl i x hi hx with q | ⟨q1, q2⟩
    · exact .inl q
    · subst q1
      by_cases e : j = id
      · subst e; exact absurd hx (hs d g hd i hi)
      · right; refine ⟨rfl, ?_⟩
        simp at q2 ⊢
        rcases q2 with q | q | q
        · exact .inl q
        · exact absurd q (by omega)
        · exact .inr q
  · rcases A.ki q j d g hd i y hi h1 h2 with w | w
    · rcases List.mem_cons.1 w with w | w
      · have : j = id := Int.ofNat.inj w
        subst this; exact absurd h1 (hs d g hd i hi)
      · exact .inl w
    · exact .inr w
/-- A clause that is watched there. -/
theorem FaI.upd (A : FaI n s0 s h f stay ((id : Int) :: R) (-1)) (hc : s.cls[id]? = some (c, true, false)) (hp : c'.Perm c) (E : PEx s s') (ht : TrI n s') (e1 : s'.cls = s.cls.set id (c', true, false)) (e2 : s'.loose = s.loose) (e3 : s'.head = s.head)
    (hw : ∀ x e, e ∈ s.wat.getD (wAt x) [] → e ∈ s'.wat.getD (wAt x) []) (hr : WaR s') (hst : stay' = stay ∨ stay' = stay ++ [(id : Int)])
    (hwi : ∀ i x, i < 2 → c'[i]? = some x → (id : Int) ∈ s'.wat.getD (wAt x) [] ∨ (x = f ∧ (id : Int) ∈ stay')) (hJ : JuC s' h c')
    (hki : out' = -1 → ∀ i y, i < 2 → c'[i]? = some f → c'[1 - i]? = some y → y ∈ s'.trail ∧ s'.lv y ≤ s'.lv f) (hen : s'.ent + stay'.length ≤ s.ent + stay.length + 1)
    (ho : out' ≠ -1 → out' = id ∧ f ∈ c' ∧ ∀ x ∈ c', val s'.vs x = 2) : FaI n s0 s' h f stay' R out' := by
  have hlt := get_len hc
  have hE := E.ceq
  have hid : s'.cls[id]? = some (c', true, false) := by rw [e1, List.getElem?_set, if_pos rfl, if_pos hlt]
  have hoth : ∀ j, j ≠ id → s'.cls[j]? = s.cls[j]? := fun j hj => by rw [e1, List.getElem?_set, if_neg fun e => hj e.symm]
  have hlv : s'.lv f = s.lv f := by
    have := E.lv _ (List.mem_of_getElem? A.fh)
    rwa [PS.lv_neg, PS.lv_neg] at this
  have hss : ∀ e, e ∈ stay → e ∈ stay' := fun e he => by rcases hst with q | q <;> rw [q] <;> simp [he]
  refine ⟨ht, A.ci.ceq hE, ⟨by rw [e2, A.lo]; simp, fun x hx => (by rw [e2, A.lo] at hx; cases hx), fun j d g hd => ?_⟩, (by rw [e2]; exact A.lo), ?_, hr, fun e he => ?_, by rw [e3]; exact A.hd, E.get A.fh, by rw [hlv, E.mks]; exact A.fl, A.ji.upd (id := id) E (Nat.le_of_lt (get_len A.fh)) hoth (fun d hd => by rw [hid] at hd; cases hd; exact hJ), fun q j d g hd i y hi h1 h2 => ?_, fun q => ?_, A.ex.trans E, by have := A.en; simp at this; omega⟩
  · by_cases e : j = id
    · subst e; rw [hid] at hd; cases hd
    · rw [hoth j e] at hd
      have := A.li.flag A.lo hd
      cases this
  · refine A.wi.upd (id := id) hoth hw (fun x j hj ⟨q1, q2⟩ => .inr ⟨q1, ?_⟩) fun d g hd hl i x hi hx => ?_
    · simp at q2 ⊢
      rcases q2 with q | q | q
      · exact .inl (hss _ q)
      · exact absurd q (by omega)
      · exact .inr q
    · rw [hid] at hd; cases hd
      rcases hwi i x hi hx with q | ⟨q1, q2⟩
      · exact .inl q
      · exact .inr ⟨q1, by simp [q2]⟩
  · refine (A.sr e ?_).ceq hE
    simp at he ⊢
    rcases he with q | q
    · rcases hst with w | w <;> rw [w] at q
      · exact .inl q
      · simp at q
        rcases q with q | q
        · exact .inl q
        · exact .inr (.inl q)
    · exact .inr (.inr q)
  · by_cases e : j = id
    · subst e; rw [hid] at hd; cases hd; exact .inr (hki q i y hi h1 h2)
    · rw [hoth j e] at hd
      rcases A.ki rfl j d g hd i y hi h1 h2 with w | ⟨w1, w2⟩
      · rcases List.mem_cons.1 w with w | w
        · exact absurd (Int.ofNat.inj w) e
        · exact .inl w
      · exact .inr ⟨E.mem w1, by rw [E.lv y w1, hlv]; exact w2⟩
  · obtain ⟨h1, h2, h3⟩ := ho q
    exact ⟨id, c', false, h1, hid, h2, h3⟩
/-- What is not looked at any more. -/
theorem FaI.rest (A : FaI n s0 s h f stay (e :: R) out) (ho : out ≠ -1) : FaI n s0 s h f (stay ++ [e]) R out := by
  have q : (stay ++ [e]) ++ R = stay ++ e :: R := by simp
  exact ⟨A.ti, A.ci, A.li, A.lo, by rw [q]; exact A.wi, A.wr, by rw [q]; exact A.sr, A.hd, A.fh, A.fl, A.ji, fun w => absurd w ho, A.o2, A.ex, by have := A.en; simp at this ⊢; omega⟩
/-- All were looked at. -/
theorem FaI.fin (A : FaI n s0 s h f stay [] out) (h0 : PrI n s0) (hh : s0.head = (h : Int)) (hb : wAt f < s.wat.length) (hs : s' = { s with wat := s.wat.set (wAt f) (stay ++ s.wat.getD (wAt f) []) }) :
    (out = -1 → PrI n { s' with head := (h : Int) + 1 }) ∧ (out ≠ -1 → PrI n s' ∧ ∃ (id : Nat) (c : List Int) (fl : Bool), out = id ∧ s'.cls[id]? = some (c, true, fl) ∧ (∀ x ∈ c, val s'.vs x = 2) ∧ ∃ x ∈ c, s'.lv x = s'.marks.length) ∧ PEx s0 s' ∧ s'.ent ≤ s0.ent := by
  have hE : CEq s s' := by rw [hs]; exact ⟨rfl, (CEq.refl s).2⟩
  have hEx : PEx s s' := PEx.same hE (by rw [hs]) (by rw [hs]) (by rw [hs])
  have hT : TrI n s' := A.ti.same hE (by rw [hs]) (by rw [hs]) (by rw [hs]) (by rw [hs]) (by rw [hs]) (by rw [hs]; simp)
  have hmem : ∀ x e, e ∈ s'.wat.getD (wAt x) [] ↔ e ∈ s.wat.getD (wAt x) [] ∨ (x = f ∧ e ∈ stay) := fun x e => by
    rw [hs]; dsimp only; rw [getD_set' hb]
    by_cases q : x = f
    · subst q; simp [or_comm]
    · rw [if_neg fun w => q (wAt_inj w)]; simp [q]
  have hL : LoI s' [] := by rw [hs]; exact ⟨A.li.nd, A.li.fl, A.li.lf⟩
  have hlo : s'.loose = [] := by rw [hs]; exact A.lo
  have hW : WaI s' fun _ _ => False := fun j d g hd hl i x hi hx => by
    have hd' : s.cls[j]? = some (d, true, g) := by rw [hs] at hd; exact hd
    rcases A.wi j d g hd' hl i x hi hx with q | ⟨q1, q2⟩
    · exact .inl ((hmem x j).2 (.inl q))
    · exact .inl ((hmem x j).2 (.inr ⟨q1, by simpa using q2⟩))
  have hR : WaR s' := fun w hw e he => by
    have key : WaE s e := by
      rw [hs] at hw
      rcases List.mem_or_eq_of_mem_set hw with hw | rfl
      · exact A.wr w hw e he
      · rcases List.mem_append.1 he with he | he
        · exact A.sr e (by simp [he])
        · exact A.wr _ (getD_mem he) e he
    exact key.ceq hE
  obtain ⟨k, e1, e2, e3, e4⟩ := h0.hd
  have hk : k = h := by omega
  subst hk
  have hmk : s'.marks = s0.marks := (A.ex.trans hEx).mks
  have hen : s'.ent ≤ s0.ent := by
    have h1 := sum_set (w := stay ++ s.wat.getD (wAt f) []) hb
    have h2 := A.en
    have h3 : s'.ent = ((s.wat.set (wAt f) (stay ++ s.wat.getD (wAt f) [])).map List.length).sum := by rw [hs]; rfl
    simp only [PS.ent] at h2 h3 ⊢
    simp at h1 h2 h3 ⊢; omega
  have hJ : JuI s' k := fun j d hd => by
    have hd' : s.cls[j]? = some (d, true, false) := by rw [hs] at hd; exact hd
    exact (A.ji j d hd').ext hEx (Nat.le_of_lt (get_len A.fh))
  have hlen := get_len (hEx.get A.fh)
  refine ⟨fun ho => ?_, fun ho => ⟨⟨hT, A.ci.ceq hE, hL, hlo, hW, hR, k, by rw [hs]; show s.head = _; rw [A.hd]; exact hh, by omega, by rw [hmk]; exact e3, hJ⟩, ?_⟩, A.ex.trans hEx, hen⟩
  · have hE2 : CEq s' { s' with head := (k : Int) + 1 } := ⟨rfl, (CEq.refl s').2⟩
    have hEx2 := PEx.same (s := s') (s' := { s' with head := (k : Int) + 1 }) hE2 rfl rfl rfl
    refine ⟨hT.same hE2 rfl rfl rfl rfl rfl rfl, (A.ci.ceq hE).ceq hE2, ⟨hL.nd, hL.fl, hL.lf⟩, hlo, hW, hR, k + 1, by simp, hlen, fun m hm => ?_, fun j d hd => ?_⟩
    · have := e3 m (by rw [← hmk]; exact hm)
      omega
    · have hd2 : s'.cls[j]? = some (d, true, false) := hd
      have hd' : s.cls[j]? = some (d, true, false) := by rw [hs] at hd2; exact hd2
      have J0 := hJ j d hd2
      refine ⟨J0.ne, J0.one, fun i x y hi h1 h2 ⟨q, hq1, hq2⟩ => ?_⟩
      by_cases hqk : q = k
      · subst hqk
        have h5 := hEx.get A.fh
        have hq3 : s'.trail[q]? = some (-x) := hq2
        rw [h5] at hq3
        have hxf : x = f := by have := Option.some.inj hq3; omega
        subst hxf
        rcases A.ki ho j d false hd' i y hi h1 h2 with w | ⟨w1, w2⟩
        · cases w
        · have g1 := hEx.mem w1
          have g2 := hEx.lv y w1
          have g3 := hEx.lv _ (List.mem_of_getElem? A.fh)
          rw [PS.lv_neg, PS.lv_neg] at g3
          exact ⟨g1, by show s'.lv y ≤ s'.lv x; rw [g2, g3]; exact w2⟩
      · exact J0.two i x y hi h1 h2 ⟨q, by omega, hq2⟩
  · obtain ⟨j, d, g, h1, h2, h3, h4⟩ := A.o2 ho
    obtain ⟨d', g', h5, p⟩ := hE.get h2
    have g3 := hEx.lv _ (List.mem_of_getElem? A.fh)
    rw [PS.lv_neg, PS.lv_neg] at g3
    exact ⟨j, d', g', h1, h5, fun x hx => by rw [hs]; exact h4 x (p.mem_iff.1 hx), f, p.mem_iff.2 h3, by rw [g3, hEx.mks]; exact A.fl⟩
end
end Go.Proofs.YtekehmgfedmflaaDoor.A

/- The engine's propagation: undone, added, dropped, grown: the plain law. -/
namespace Go.Proofs.YtekehmgfedmflaaDoor.A
open Go
/-- What holds between questions. -/
structure StI (n : Nat) (s : PS) : Prop where
  ti : TrI n s
  ci : ClI n s
  li : LoI s []
  wi : WaI s fun _ _ => False
  wr : WaR s
  hd : ∃ h : Nat, s.head = h ∧ h ≤ s.trail.length ∧ (∀ m ∈ s.marks, m ≤ (h : Int)) ∧ JuI s h
section
variable {n id h k : Nat} {s s0 s1 s' : PS} {l x y z e f out : Int} {c c' nw P : List Int} {b fl : Bool}
theorem PrI.si (h : PrI n s) : StI n s := ⟨h.ti, h.ci, h.li, h.wi, h.wr, h.hd⟩
/-! ### Watches that are right -/
theorem JuC.top (ht : TrI n s) (h2 : 2 ≤ c.length) (h0 : ∀ i x, i < 2 → c[i]? = some x → val s.vs x ≠ 2) : JuC s k c := ⟨fun e => by simp [e] at h2, fun x e => by simp [e] at h2, fun i x y hi hx hy ⟨j, _, hj⟩ => absurd (ht.neg.2 (List.mem_of_getElem? hj)) (h0 i x hi hx)⟩
theorem JuC.sat (ht : TrI n s) (hx : c[0]? = some x) (hm : x ∈ s.trail) (h1 : c.length = 1 → s.lv x = 0) (h2 : ∀ y, c[1]? = some y → s.lv x ≤ s.lv y) : JuC s k c := by
  refine ⟨fun e => by simp [e] at hx, fun w e => ?_, fun i w y hi hw hy ⟨j, _, hj⟩ => ?_⟩
  · subst e
    simp at hx; subst hx
    exact ⟨hm, h1 rfl⟩
  · match i, hi with
    | 0, _ =>
      have : x = w := by rw [hx] at hw; exact Option.some.inj hw
      subst this
      exact (ht.notBoth hm (List.mem_of_getElem? hj)).elim
    | 1, _ =>
      have : y = x := by rw [show (1 - 1 : Nat) = 0 from rfl, hx] at hy; exact (Option.some.inj hy).symm
      subst this
      exact ⟨hm, h2 w hw⟩
theorem JuC.swap (hJ : JuC s k c) (h2 : 2 ≤ c.length) : JuC s k (swapL c 0 1) := by
  have hg : ∀ i, i < 2 → (swapL c 0 1)[i]? = c[1 - i]? := fun i hi => by
    rw [swapL_get (by omega) (by omega)]
    match i, hi with
    | 0, _ => rfl
    | 1, _ => rfl
  refine ⟨fun e => by have := swapL_len (c := c) (i := 0) (j := 1); rw [e] at this; simp at this; omega, fun w e => by have := swapL_len (c := c) (i := 0) (j := 1); rw [e] at this; simp at this; omega, fun i x y hi hx hy hj => ?_⟩
  rw [hg i hi] at hx
  rw [hg (1 - i) (by omega)] at hy
  exact hJ.two (1 - i) x y (by omega) hx hy hj
structure UnX (s s1 : PS) (xs : List Int) : Prop where
  eq : s1 = { s with vs := s1.vs, lev := s1.lev, rea := s1.rea }
  l1 : s1.vs.length = s.vs.length
  l2 : s1.lev.length = s.lev.length
  l3 : s1.rea.length = s.rea.length
  vs : ∀ v, s1.vs.getD v 0 = if v ∈ xs.map Int.natAbs then 0 else s.vs.getD v 0
  lv : ∀ v, v ∉ xs.map Int.natAbs → s1.lev.getD v 0 = s.lev.getD v 0
  re : ∀ v, v ∉ xs.map Int.natAbs → s1.rea.getD v 0 = s.rea.getD v 0
theorem UnX.refl (s : PS) : UnX s s [] := ⟨rfl, rfl, rfl, rfl, by simp, by simp, by simp⟩
theorem TrI.in (h : TrI n s) (hl : l ∈ s.trail) : l.natAbs < s.vs.length ∧ l.natAbs < s.lev.length ∧ l.natAbs < s.rea.length := by
  have := isL_ne (h.rng l hl)
  obtain ⟨q1, q2, q3, q4⟩ := h.len
  omega
end
end Go.Proofs.YtekehmgfedmflaaDoor.A

/- The engine's propagation: added, dropped, grown: the plain law. -/
namespace Go.Proofs.YtekehmgfedmflaaDoor.A
open Go
/-- So many different numbers below a bound. -/
theorem nd_bound : ∀ (n : Nat) (xs : List Nat), xs.Nodup → (∀ x ∈ xs, 1 ≤ x ∧ x ≤ n) → xs.length ≤ n
  | 0, xs, _, h => by
    cases xs with
    | nil => simp
    | cons a t => have := h a (by simp); omega
  | n + 1, xs, hn, h => by
    have h1 := nd_bound n (xs.erase (n + 1)) (hn.erase _) fun x hx => by
      have h2 := h x (List.mem_of_mem_erase hx)
      have h3 : x ≠ n + 1 := fun e => by subst e; exact (hn.not_mem_erase) hx
      omega
    have h2 := List.length_erase (a := n + 1) (l := xs)
    split at h2 <;> omega
section
variable {n id h k : Nat} {s s0 s1 s' : PS} {l x y z e f out : Int} {c c' l' nw P : List Int} {b fl : Bool}
theorem TrI.lenT (h : TrI n s) : s.trail.length ≤ n := by
  have := nd_bound n (s.trail.map Int.natAbs) ?_ ?_
  · simpa using this
  · rw [List.Nodup, List.pairwise_map]
    exact h.nd.imp_of_mem fun ha hb hne e => hne (h.abs ha hb e)
  · intro x hx
    obtain ⟨l, hl, rfl⟩ := List.mem_map.1 hx
    have := isL_ne (h.rng l hl)
    omega
/-! ### Added -/
def PS.addC (s : PS) (l : List Int) : PS := { s with cls := s.cls ++ [(l, true, true)], loose := s.loose ++ [(s.cls.length : Int)], wat := ((if 1 < l.length then l.take 2 else []).foldl (fun (q : PS) x => q.watch x s.cls.length) s).wat }
theorem fold_wat (id : Nat) : ∀ (l : List Int) (s t : PS), s.wat = t.wat → (l.foldl (fun (q : PS) x => q.watch x id) s).wat = (l.foldl (fun (q : PS) x => q.watch x id) t).wat
  | [], s, t, e => e
  | a :: l, s, t, e => fold_wat id l _ _ (by simp only [PS.watch]; rw [e])
theorem fold_eq (id : Nat) : ∀ (l : List Int) (s : PS), l.foldl (fun (q : PS) x => q.watch x id) s = { s with wat := (l.foldl (fun (q : PS) x => q.watch x id) s).wat }
  | [], s => rfl
  | a :: l, s => by have := fold_eq id l (s.watch a id); rw [List.foldl_cons, this]; rfl
theorem add_eq (s : PS) (l : List Int) : s.add l = s.addC l := by
  unfold PS.add PS.addC
  generalize (if 1 < l.length then l.take 2 else []) = w
  rw [fold_eq, fold_wat s.cls.length w { s with cls := s.cls ++ [(l, true, false)] } s rfl]
  unfold PS.look
  simp
theorem fold_WX (id : Nat) : ∀ (l nw : List Int) (s s1 : PS), WaX s s1 id nw → (∀ x ∈ l, wAt x < s.wat.length) → WaX s (l.foldl (fun (q : PS) x => q.watch x id) s1) id (nw ++ l)
  | [], nw, s, s1, h, _ => by simpa using h
  | a :: l, nw, s, s1, h, hw => by
    have := fold_WX id l (nw ++ [a]) s _ (h.watch (hw a (by simp))) fun x hx => hw x (by simp [hx])
    simpa using this
theorem get_push {α : Type} {xs : List α} {a b : α} {i : Nat} (h : (xs ++ [a])[i]? = some b) : xs[i]? = some b ∨ (i = xs.length ∧ b = a) := by
  rcases Nat.lt_trichotomy i xs.length with hl | rfl | hl
  · left; rwa [List.getElem?_append_left hl] at h
  · right
    rw [List.getElem?_append_right (Nat.le_refl _)] at h
    simp at h; exact ⟨rfl, h.symm⟩
  · have := get_len h
    simp at this; omega
theorem StI.addC (S : StI n s) (hc : ∀ x ∈ l', isL x n = true) (hd : (l'.map Int.natAbs).Nodup) : StI n (s.addC l') ∧ (s.addC l').ent ≤ s.ent + 2 := by
  have hwl : ∀ x ∈ (if 1 < l'.length then l'.take 2 else []), wAt x < s.wat.length := fun x hx => by
    rw [S.ti.len.wat]
    split at hx
    · exact wAt_lt (hc x (List.mem_of_mem_take hx))
    · cases hx
  have X := fold_WX s.cls.length (if 1 < l'.length then l'.take 2 else []) [] s s (WaX.refl s _) hwl
  rw [List.nil_append] at X
  have ewat : (s.addC l').wat = ((if 1 < l'.length then l'.take 2 else []).foldl (fun (q : PS) x => q.watch x s.cls.length) s).wat := rfl
  have hget : ∀ {j : Nat} {d : List Int × Bool × Bool}, (s.addC l').cls[j]? = some d → s.cls[j]? = some d ∨ (j = s.cls.length ∧ d = (l', true, true)) := fun h => get_push h
  have hgot : ∀ {j : Nat} {d : List Int × Bool × Bool}, s.cls[j]? = some d → (s.addC l').cls[j]? = some d := fun {j d} h => by
    show (s.cls ++ [(l', true, true)])[j]? = _
    rw [List.getElem?_append_left (get_len h)]; exact h
  have hlast : (s.addC l').cls[s.cls.length]? = some (l', true, true) := by show (s.cls ++ [(l', true, true)])[s.cls.length]? = _; simp
  have ht := S.ti
  refine ⟨⟨⟨⟨ht.len.vs, ht.len.lev, ht.len.rea, by rw [ewat, X.len]; exact ht.len.wat⟩, ht.ok, ht.rng, ht.tr, ht.nd, ht.lv, ht.mks, fun i l hl => ?_⟩, fun j d g h1 => ?_, ⟨?_, fun x hx => ?_, fun j d b h1 => ?_⟩, fun j d g h1 hl i x hi hx => ?_, fun w hw e he => ?_, ?_⟩, ?_⟩
  · rcases ht.rs i l hl with q | ⟨id, c, f, h1, h2, h3, h4⟩
    · exact .inl q
    · exact .inr ⟨id, c, f, h1, hgot h2, h3, h4⟩
  · rcases hget h1 with q | ⟨_, q⟩
    · exact S.ci j d g q
    · cases q; exact ⟨hc, hd⟩
  · show ([] ++ (s.loose ++ [(s.cls.length : Int)])).Nodup
    rw [List.nil_append]
    refine List.nodup_append.2 ⟨by simpa using S.li.nd, by simp, fun x hx y hy e => ?_⟩
    obtain ⟨j, d, b, e1, e2⟩ := S.li.fl x (by simpa using hx)
    have := get_len e2
    rw [List.mem_singleton.1 hy] at e
    omega
  · have hx : x ∈ s.loose ++ [(s.cls.length : Int)] := hx
    rcases List.mem_append.1 hx with q | q
    · obtain ⟨j, d, b, e1, e2⟩ := S.li.fl x (by simpa using q)
      exact ⟨j, d, b, e1, hgot e2⟩
    · exact ⟨s.cls.length, l', true, List.mem_singleton.1 q, hlast⟩
  · show (j : Int) ∈ [] ++ (s.loose ++ [(s.cls.length : Int)])
    rcases hget h1 with q | ⟨q, _⟩
    · have := S.li.lf j d b q
      simp at this ⊢; exact .inl this
    · simp [q]
  · rw [ewat, X.mem]
    rcases hget h1 with q | ⟨q1, q2⟩
    · rcases S.wi j d g q hl i x hi hx with w | w
      · exact .inl (.inl w)
      · exact w.elim
    · cases q2
      left; right
      refine ⟨?_, by rw [q1]⟩
      rw [if_pos (by omega)]
      exact List.mem_of_getElem? (i := i) (by rw [List.getElem?_take_of_lt hi]; exact hx)
  · have hW : WaE { s with cls := s.cls ++ [(l', true, true)] } e := by
      have hmem : ∀ e, WaE s e → WaE { s with cls := s.cls ++ [(l', true, true)] } e := fun e ⟨id, c, b, f, h1, h2, h3⟩ => ⟨id, c, b, f, h1, hgot h2, h3⟩
      rw [ewat] at hw
      have Y := fold_WX s.cls.length (if 1 < l'.length then l'.take 2 else []) [] { s with cls := s.cls ++ [(l', true, true)] } { s with cls := s.cls ++ [(l', true, true)] } (WaX.refl _ _) hwl
      rw [List.nil_append] at Y
      have hR := Y.wr (fun hne => ⟨s.cls.length, l', true, true, rfl, hlast, fun _ => by
        split at hne
        · rename_i q; exact q
        · exact absurd rfl hne⟩) (fun w hw e he => hmem e (S.wr w hw e he))
      rw [fold_wat s.cls.length _ s { s with cls := s.cls ++ [(l', true, true)] } rfl] at hw
      obtain ⟨id, c, b, f, h1, h2, h3⟩ := hR w hw e he
      refine ⟨id, c, b, f, h1, ?_, h3⟩
      rw [Y.eq] at h2
      exact h2
    obtain ⟨id, c, b, f, h1, h2, h3⟩ := hW
    exact ⟨id, c, b, f, h1, h2, h3⟩
  · obtain ⟨h, e1, e2, e3, e4⟩ := S.hd
    refine ⟨h, e1, e2, e3, fun j d h1 => ?_⟩
    rcases hget h1 with q | ⟨_, q⟩
    · exact ⟨(e4 j d q).ne, (e4 j d q).one, (e4 j d q).two⟩
    · cases q
  · have h1 := X.ent
    have h2 : (s.addC l').ent = ((if 1 < l'.length then l'.take 2 else []).foldl (fun (q : PS) x => q.watch x s.cls.length) s).ent := rfl
    rw [h2, h1]
    split
    · simp; omega
    · simp
/-! ### Dropped -/
def PS.dropC (s : PS) (id : Nat) (f : Bool) : PS := { s with cls := s.cls.set id ([], false, f) }
theorem StI.dropC (S : StI n s) (hc : s.cls[id]? = some (c, b, fl)) (hr : ∀ x ∈ s.trail, x ∈ c → s.re x ≠ id) : StI n (s.dropC id fl) := by
  have hlt := get_len hc
  have hid : (s.dropC id fl).cls[id]? = some ([], false, fl) := by show (s.cls.set id ([], false, fl))[id]? = _; rw [List.getElem?_set, if_pos rfl, if_pos hlt]
  have hoth : ∀ j, j ≠ id → (s.dropC id fl).cls[j]? = s.cls[j]? := fun j hj => by show (s.cls.set id ([], false, fl))[j]? = _; rw [List.getElem?_set, if_neg fun e => hj e.symm]
  have ht := S.ti
  refine ⟨⟨⟨ht.len.vs, ht.len.lev, ht.len.rea, ht.len.wat⟩, ht.ok, ht.rng, ht.tr, ht.nd, ht.lv, ht.mks, fun i l hl => ?_⟩, fun j d g h1 => ?_, ⟨S.li.nd, fun x hx => ?_, fun j d b' h1 => ?_⟩, fun j d g h1 hl i x hi hx => ?_, fun w hw e he => ?_, ?_⟩
  · rcases ht.rs i l hl with q | ⟨id', c', f', h1, h2, h3, h4⟩
    · exact .inl q
    · refine .inr ⟨id', c', f', h1, ?_, h3, h4⟩
      rw [hoth id' fun e => ?_]
      · exact h2
      · subst e
        rw [hc] at h2
        have : c = c' := by injection h2 with h2; exact congrArg (·.1) h2
        subst this
        exact hr l (List.mem_of_getElem? hl) h3 h1
  · by_cases e : j = id
    · subst e; rw [hid] at h1; cases h1
    · rw [hoth j e] at h1; exact S.ci j d g h1
  · obtain ⟨j, d, b', e1, e2⟩ := S.li.fl x hx
    by_cases e : j = id
    · subst e
      rw [hc] at e2
      have : fl = true := by injection e2 with e2; exact congrArg (·.2.2) e2
      subst this
      exact ⟨j, [], false, e1, hid⟩
    · exact ⟨j, d, b', e1, by rw [hoth j e]; exact e2⟩
  · by_cases e : j = id
    · subst e
      rw [hid] at h1
      have : fl = true := by injection h1 with h1; exact congrArg (·.2.2) h1
      subst this
      exact S.li.lf j c b hc
    · rw [hoth j e] at h1; exact S.li.lf j d b' h1
  · by_cases e : j = id
    · subst e; rw [hid] at h1; cases h1
    · rw [hoth j e] at h1; exact S.wi j d g h1 hl i x hi hx
  · obtain ⟨j, d, b', g, e1, e2, e3⟩ := S.wr w hw e he
    by_cases q : j = id
    · subst q; exact ⟨j, [], false, fl, e1, hid, fun w => by cases w⟩
    · exact ⟨j, d, b', g, e1, by rw [hoth j q]; exact e2, e3⟩
  · obtain ⟨h, e1, e2, e3, e4⟩ := S.hd
    refine ⟨h, e1, e2, e3, fun j d h1 => ?_⟩
    by_cases e : j = id
    · subst e; rw [hid] at h1; cases h1
    · rw [hoth j e] at h1
      exact ⟨(e4 j d h1).ne, (e4 j d h1).one, (e4 j d h1).two⟩
/-! ### Grown -/
theorem getD_app {α : Type} {xs ys : List α} {d : α} {v : Nat} (h : v < xs.length) : (xs ++ ys).getD v d = xs.getD v d := by
  rw [List.getD_eq_getElem?_getD, List.getD_eq_getElem?_getD, List.getElem?_append_left h]
theorem getD_rep {α : Type} {xs : List α} {d : α} {v m : Nat} : (xs ++ List.replicate m d).getD v d = xs.getD v d := by
  rw [List.getD_eq_getElem?_getD, List.getD_eq_getElem?_getD]
  by_cases h : v < xs.length
  · rw [List.getElem?_append_left h]
  · rw [List.getElem?_append_right (by omega), List.getElem?_eq_none (l := xs) (by omega), List.getElem?_replicate]
    split <;> rfl
theorem val_grow {vs : List Int} {m : Nat} (l : Int) : val (vs ++ List.replicate m 0) l = val vs l := by
  unfold val
  rw [getD_rep]
  have h0 : vs.length ≤ l.natAbs → vs.getD l.natAbs 0 = 0 := fun h => by rw [List.getD_eq_getElem?_getD, List.getElem?_eq_none h]; rfl
  simp only [List.length_append, List.length_replicate]
  by_cases h1 : l = 0
  · simp [h1]
  · by_cases h2 : vs.length ≤ l.natAbs
    · rw [h0 h2]; simp
    · rw [if_neg (show ¬ (l = 0 ∨ vs.length + m ≤ l.natAbs) by omega), if_neg (show ¬ (l = 0 ∨ vs.length ≤ l.natAbs) by omega)]
theorem isL_le {m : Nat} (h : isL l n = true) (hm : n ≤ m) : isL l m = true := by
  obtain ⟨h1, h2, h3⟩ := isL_iff.1 h
  exact isL_iff.2 ⟨h1, by omega, by omega⟩
theorem StI.grow (S : StI n s) (m : Nat) : StI (n + m) (s.grow m) ∧ (s.grow m).ent = s.ent := by
  have ht := S.ti
  obtain ⟨q1, q2, q3, q4⟩ := ht.len
  have hlv : ∀ x ∈ s.trail, (s.grow m).lv x = s.lv x := fun x hx => by
    have := isL_ne (ht.rng x hx)
    exact getD_app (by omega)
  have hre : ∀ x ∈ s.trail, (s.grow m).re x = s.re x := fun x hx => by
    have := isL_ne (ht.rng x hx)
    exact getD_app (by omega)
  have hwat : ∀ k, (s.grow m).wat.getD k [] = s.wat.getD k [] := fun k => getD_rep
  refine ⟨⟨⟨⟨?_, ?_, ?_, ?_⟩, ?_, fun l hl => isL_le (ht.rng l hl) (by omega), fun l => ?_, ht.nd, fun l hl => ?_, fun k a hk => ?_, fun i l hl => ?_⟩, fun j d g h1 => ?_, ⟨S.li.nd, S.li.fl, S.li.lf⟩, fun j d g h1 hl i x hi hx => ?_, fun w hw e he => ?_, ?_⟩, ?_⟩
  · simp [PS.grow, q1]; omega
  · simp [PS.grow, q2]; omega
  · simp [PS.grow, q3]; omega
  · simp [PS.grow, q4]; omega
  · intro x hx
    rcases List.mem_append.1 hx with w | w
    · exact ht.ok x w
    · exact .inl (List.eq_of_mem_replicate w)
  · show val (s.vs ++ List.replicate m 0) l = 1 ↔ _
    rw [val_grow]; exact ht.tr l
  · rw [hlv l hl]; exact ht.lv l hl
  · obtain ⟨a', e, ⟨w, g1, g2⟩, g3⟩ := ht.mks k a hk
    exact ⟨a', e, ⟨w, g1, by rw [hlv w (List.mem_of_getElem? g1)]; exact g2⟩, fun i x hx => by rw [hlv x (List.mem_of_getElem? hx)]; exact g3 i x hx⟩
  · rcases ht.rs i l hl with ⟨h1, k', h2, h3⟩ | ⟨id, c, f, h1, h2, h3, h4⟩
    · exact .inl ⟨by rw [hre l (List.mem_of_getElem? hl)]; exact h1, k', by rw [hlv l (List.mem_of_getElem? hl)]; exact h2, h3⟩
    · exact .inr ⟨id, c, f, by rw [hre l (List.mem_of_getElem? hl)]; exact h1, h2, h3, h4⟩
  · obtain ⟨h2, h3⟩ := S.ci j d g h1
    exact ⟨fun l hl => isL_le (h2 l hl) (by omega), h3⟩
  · rw [hwat]; exact S.wi j d g h1 hl i x hi hx
  · rcases List.mem_append.1 hw with q | q
    · exact S.wr w q e he
    · rw [List.eq_of_mem_replicate q] at he; cases he
  · obtain ⟨h, e1, e2, e3, e4⟩ := S.hd
    refine ⟨h, e1, e2, e3, fun j d h1 => ?_⟩
    have J := e4 j d h1
    refine ⟨J.ne, fun x hx => ?_, fun i x y hi hx hy ⟨q, hq1, hq2⟩ => ?_⟩
    · obtain ⟨g1, g2⟩ := J.one x hx
      exact ⟨g1, by rw [hlv x g1]; exact g2⟩
    · obtain ⟨g1, g2⟩ := J.two i x y hi hx hy ⟨q, hq1, hq2⟩
      have := hlv _ (List.mem_of_getElem? hq2)
      rw [PS.lv_neg, PS.lv_neg] at this
      exact ⟨g1, by rw [hlv y g1, this]; exact g2⟩
  · simp [PS.ent, PS.grow]
end
end Go.Proofs.YtekehmgfedmflaaDoor.A

/- The engine's propagation, in the heap: values, ranks, a literal comes to be true, the best literal. -/
namespace Go.Proofs.YtekehmgfedmflaaDoor.A
open Go
theorem isL_in {l : Int} {n : Nat} (h : isL l n = true) (hn : n ≤ 4000) : inB l = true := by
  have := isL_iff.1 h
  simp only [inB, Bool.and_eq_true, decide_eq_true_eq]
  omega
section
variable {σ τ : Heap} {T T' : Tg} {lp n id : Nat} {h : PH} {s : PS} {l : Int} {c c' : List Int} {b f : Bool}
/-! ### A clause's literals turn -/
def PS.putC (s : PS) (id : Nat) (c : List Int) (b f : Bool) : PS := { s with cls := s.cls.set id (c, b, f) }
end
end Go.Proofs.YtekehmgfedmflaaDoor.A

/- The engine's propagation, in the heap: a clause is looked at in whole. -/
namespace Go.Proofs.YtekehmgfedmflaaDoor.A
open Go
/-- What a look at a clause in whole comes to. -/
def ANR (s : PS) (id : Nat) (c' : List Int) (s1 s2 : PS) (r : Bool × Bool) : Prop :=
  (r = (true, true) ∧ s2 = s1 ∧ ∀ x ∈ c', val s.vs x = 2) ∨
  (r = (false, false) ∧ s2 = s1 ∧ 2 ≤ c'.length ∧ ∀ i x, i < 2 → c'[i]? = some x → val s.vs x ≠ 2) ∨
  (∃ x, c'[0]? = some x ∧ val s.vs x ≠ 2 ∧ (∀ y, c'[1]? = some y → val s.vs y = 2) ∧ ((val s.vs x = 0 ∧ s2 = s1.setL x id) ∨ (val s.vs x = 1 ∧ s2 = s1)) ∧ ∃ below, (c'.length = 1 → below = 0) ∧ (∀ y, c'[1]? = some y → below = s2.lv y) ∧ r = (false, decide (s2.lv x > below)))
section
variable {σ τ : Heap} {T T' : Tg} {lp n id : Nat} {h : PH} {s s1 : PS} {l : Int} {c c' : List Int} {b f : Bool}
end
end Go.Proofs.YtekehmgfedmflaaDoor.A

/- The engine's propagation: looked at anew, a round of the loop. -/
namespace Go.Proofs.YtekehmgfedmflaaDoor.A
open Go
def Rd (s : PS) (P : List Int) (out : Int) : Prop := s.marks = [] ∨ (out = -1 ∧ (P = [] ∨ ∃ id : Nat, P = [(id : Int)] ∧ Ready s id))
section
variable {n id : Nat} {s s0 s1 s2 : PS} {x out : Int} {c c' nw P : List Int} {b f : Bool} {r : Bool × Bool}
theorem AgI.start (S : StI n s) : AgI n s { s with loose := [] } s.loose (-1) := by
  obtain ⟨h, e1, e2, e3, e4⟩ := S.hd
  have hE : CEq s { s with loose := [] } := ⟨rfl, (CEq.refl s).2⟩
  refine ⟨S.ti.same hE rfl rfl rfl rfl rfl rfl, S.ci, ⟨by simpa using S.li.nd, fun x hx => S.li.fl x (by simpa using hx), fun j d b hj => by simpa using S.li.lf j d b hj⟩, S.wi, fun w hw e he => (S.wr w hw e he).ceq hE, rfl, fun k hk => ?_, PEx.same hE rfl rfl rfl, ?_, fun _ => rfl, fun q => absurd rfl q⟩
  · have : k = h := by omega
    subst this
    exact ⟨e2, fun j d hd => ⟨(e4 j d hd).ne, (e4 j d hd).one, (e4 j d hd).two⟩⟩
  · show s.ent + 2 * (s.loose.length + 0) ≤ _
    rw [if_pos rfl]; omega
theorem bst_false1 (ht : TrI n s) (hB : Bst s c) (hx : c[0]? = some x) (h2 : ∀ y, c[1]? = some y → val s.vs y = 2) : ∀ y ∈ c, y ≠ x → val s.vs y = 2 := fun y hy hne => by
  obtain ⟨k, hk⟩ := mem_ix hy
  have hk1 : 1 ≤ k := Nat.pos_of_ne_zero fun e => by subst e; rw [hx] at hk; exact hne (Option.some.inj hk).symm
  have hkl := get_len hk
  obtain ⟨z, hz⟩ := get_ex (xs := c) (i := 1) (by omega)
  have h1 := hB 1 k z y (by omega) hk1 hz hk
  obtain ⟨g1, g2, g3⟩ := ht.rank_le (h2 z hz)
  refine Decidable.byContradiction fun hne => ?_
  have := rank_top (s := s) hne
  omega
/-- It is looked at in whole. -/
theorem AgI.look (A : AgI n s0 s ((id : Int) :: P) (-1)) (hR : Rd s ((id : Int) :: P) (-1)) (h : AnI s s1 id c c' nw) (hA : ANR (s.putC id c true false) id c' s1 s2 r) :
    (r = (true, true) ∧ s2 = s1 ∧ s.marks = [] ∧ AgI n s0 (s1.look id) P id) ∨ (r = (false, false) ∧ AgI n s0 s2 P (-1) ∧ Rd s2 P (-1)) := by
  obtain ⟨f1, f2, f3, f4, f5, f6, f7, f8, f9⟩ := h.ff
  obtain ⟨b1, b2, b3, b4, b5, b6, b7, b8, b9, b10, b11, b12⟩ := h.base A
  have hfv : ∀ x, val (s.putC id c true false).vs x = val s.vs x := fun x => rfl
  have hRP : ∀ s' : PS, s'.marks = s.marks → Rd s' P (-1) := fun s' e => by
    rcases hR with q | ⟨_, q | ⟨j, q, _⟩⟩
    · exact .inl (by rw [e]; exact q)
    · cases q
    · refine .inr ⟨rfl, .inl ?_⟩
      have := congrArg List.tail q
      simpa using this
  have hrdy : s.marks = [] ∨ Ready s id := by
    rcases hR with q | ⟨_, q | ⟨j, q, w⟩⟩
    · exact .inl q
    · cases q
    · have : j = id := by have := (List.cons.inj q).1; omega
      subst this; exact .inr w
  rcases hA with ⟨e1, e2, e3⟩ | ⟨e1, e2, e3, e4⟩ | ⟨x, hx, hx2, hy2, hs2, below, hb1, hb2, er⟩
  · left
    have hm : s.marks = [] := by
      rcases hrdy with q | ⟨d, g, hd, l, hl, hl0, hl1, hl2, hl3⟩
      · exact q
      · rw [h.hc] at hd; cases hd
        have := e3 l (h.pm.mem_iff.2 hl)
        rw [hfv] at this; omega
    exact ⟨e1, e2, hm, A.bad h hm e3⟩
  · right
    subst e2
    refine ⟨e1, A.good h (PEx.refl _) b1 rfl rfl rfl rfl fun k _ => JuC.top b1 e3 fun i x hi hx => ?_, hRP s2 f5⟩
    rw [f1]; exact e4 i x hi hx
  · right
    have hbf := bst_false1 A.ti h.bst hx hy2
    have hxc := List.mem_of_getElem? hx
    have hxl := (b2 id c' false b8).1 x hxc
    have hv1 : ∀ y, val s1.vs y = val s.vs y := fun y => by rw [f1]
    have hlv1 : ∀ y, s1.lv y = s.lv y := fun y => by simp [PS.lv, f2]
    -- the state behind it
    have key : TrI n s2 ∧ PEx s1 s2 ∧ s2.cls = s1.cls ∧ s2.wat = s1.wat ∧ s2.head = s1.head ∧ s2.loose = s1.loose ∧ x ∈ s2.trail ∧ (val s.vs x = 0 → s2.lv x = s.marks.length) := by
      rcases hs2 with ⟨e0, e⟩ | ⟨e0, e⟩
      · rw [hfv] at e0
        rw [← hv1] at e0
        subst e
        exact ⟨b1.set b8 hxc hxl e0 fun y hy hne => by rw [hv1]; exact hbf y hy hne, PEx.setL b1 hxl e0 _, rfl, rfl, rfl, rfl, by simp [PS.setL], fun _ => by rw [(setL_lv b1 hxl e0).2, f5]⟩
      · rw [hfv] at e0
        subst e
        exact ⟨b1, PEx.refl _, rfl, rfl, rfl, rfl, (b1.tr x).1 (by rw [hv1]; exact e0), fun q => by omega⟩
    obtain ⟨t2, E2, g1, g2, g3, g4, g5, g6⟩ := key
    have hm2 : s2.marks = s.marks := E2.mks.trans f5
    have hlx := t2.lv x g5
    have hbelow : 0 ≤ below ∧ ∀ y, c'[1]? = some y → s2.lv y = s.lv y := by
      have hyy : ∀ y, c'[1]? = some y → s2.lv y = s.lv y := fun y hy => by
        have hm := A.ti.neg.1 (hy2 y hy)
        have := E2.lv (-y) (by rw [f4]; exact hm)
        rw [PS.lv_neg, PS.lv_neg, hlv1] at this
        exact this
      refine ⟨?_, hyy⟩
      cases hq : c'[1]? with
      | none =>
        have h1 := get_len hx
        have h2 := List.getElem?_eq_none_iff.1 hq
        have := hb1 (by omega)
        omega
      | some y =>
        rw [hb2 y hq, hyy y hq]
        exact (A.ti.rank_le (hy2 y hq)).2.1
    have hle : s2.lv x ≤ below := by
      rcases hrdy with q | ⟨d, g, hd, l, hl, hl0, hl1, hl2, hl3⟩
      · rw [hm2, q] at hlx
        have := hlx.2
        simp at this
        omega
      · rw [h.hc] at hd; cases hd
        have exl : x = l := Decidable.byContradiction fun hne => hx2 (hl1 x (h.pm.mem_iff.1 hxc) hne)
        subst exl
        rw [g6 hl0]
        by_cases hlen : c'.length = 1
        · rw [hb1 hlen]
          have := hl3 (by rw [← h.pm.length_eq]; exact hlen)
          rw [this]; simp
        · have h1 := get_len hx
          obtain ⟨y, hy⟩ := get_ex (xs := c') (i := 1) (by omega)
          obtain ⟨z, hz1, hz2, hz3⟩ := hl2 (by rw [← h.pm.length_eq]; omega)
          obtain ⟨k, hk⟩ := mem_ix (h.pm.mem_iff.2 hz1)
          have hk1 : 1 ≤ k := Nat.pos_of_ne_zero fun e => by subst e; rw [hx] at hk; exact hz2 (Option.some.inj hk).symm
          have h2 := h.bst 1 k y z (by omega) hk1 hy hk
          have h3 := (A.ti.rank_le (hl1 z hz1 hz2)).1
          have h4 := (A.ti.rank_le (hy2 y hy)).1
          rw [hb2 y hy, hbelow.2 y hy]
          omega
    refine ⟨by rw [er, decide_eq_false (by omega)], A.good h E2 t2 g1 g2 g3 g4 fun k _ => JuC.sat t2 hx g5 (fun hlen => ?_) fun y hy => ?_, hRP s2 hm2⟩
    · have := hb1 hlen; omega
    · rw [← hb2 y hy]; exact hle
end
end Go.Proofs.YtekehmgfedmflaaDoor.A

/- The engine's propagation, in the heap: all that has to be looked at anew. -/
namespace Go.Proofs.YtekehmgfedmflaaDoor.A
open Go
section
variable {σ τ : Heap} {T T' : Tg} {lp n id : Nat} {h : PH} {s s1 : PS} {l : Int} {c c' : List Int} {b f : Bool}
theorem ClI.len (h : ClI n s) (hc : s.cls[id]? = some (c, true, f)) : c.length ≤ n := by
  obtain ⟨h1, h2⟩ := h id c f hc
  have := nd_bound n (c.map Int.natAbs) h2 fun x hx => by
    obtain ⟨l, hl, rfl⟩ := List.mem_map.1 hx
    have := isL_ne (h1 l hl)
    omega
  simpa using this
end
end Go.Proofs.YtekehmgfedmflaaDoor.A

/- The engine's propagation, in the heap: all that follows. -/
namespace Go.Proofs.YtekehmgfedmflaaDoor.A
open Go
section
variable {σ τ : Heap} {T T' : Tg} {lp n id : Nat} {h : PH} {s s1 s' : PS} {l f x out : Int} {c c' : List Int} {b g : Bool}
theorem PrI.look (P : PrI n s) (hh : s.head = s.trail.length) (hc : s.cls[id]? = some (c, true, g)) : c ≠ [] ∧ (∀ x, c = [x] → x ∈ s.trail) ∧ ∀ (i : Nat) x y, i < 2 → c[i]? = some x → c[1 - i]? = some y → val s.vs x = 2 → y ∈ s.trail := by
  obtain ⟨k, e1, e2, e3, e4⟩ := P.hd
  have e5 : k = s.trail.length := by omega
  subst e5
  have hg := P.li.flag P.lo hc
  subst hg
  have J := e4 id c hc
  refine ⟨J.ne, fun x hx => (J.one x hx).1, fun i x y hi hx hy hv => ?_⟩
  obtain ⟨j, hj⟩ := mem_ix (P.ti.neg.1 hv)
  exact (J.two i x y hi hx hy ⟨j, get_len hj, hj⟩).1
/-- All that follows is there. -/
theorem PrI.unit (P : PrI n s) (hh : s.head = s.trail.length) (hc : s.cls[id]? = some (c, true, g)) (hl : l ∈ c) (hf : ∀ x ∈ c, x ≠ l → val s.vs x = 2) : l ∈ s.trail := by
  obtain ⟨h1, h2, h3⟩ := P.look hh hc
  obtain ⟨i, hi⟩ := mem_ix hl
  have hnd := (P.ci id c g hc).2
  match c, h1 with
  | [a], _ =>
    have : l = a := by simpa using hl
    subst this
    exact h2 _ rfl
  | a :: d :: t, _ =>
    by_cases ea : a = l
    · subst ea
      have hne : d ≠ a := fun e => by subst e; simp at hnd
      exact h3 1 d a (by omega) rfl rfl (hf d (by simp) hne)
    · have hva := hf a (by simp) ea
      have hd := h3 0 a d (by omega) rfl rfl hva
      by_cases ed : d = l
      · rw [← ed]; exact hd
      · have := hf d (by simp) ed
        rw [← P.ti.tr] at hd
        omega
end
end Go.Proofs.YtekehmgfedmflaaDoor.A

/- The engine's propagation, in the heap: what is asked of it, decided, undone, dropped. -/
namespace Go.Proofs.YtekehmgfedmflaaDoor.A
open Go
/-- A copy. -/
theorem cloneT {σ : Heap} {T : Tg} {t : Nat} {xs : List Int} {x : AVal} (h : SlV .int (σ.at T t) xs x) (hn : Tn σ T) (hb : xs.length ≤ 1000000) : W (S.slices_Clone_int_int x σ) fun r => Hle σ r.2 ∧ Acc .int σ.next r.2 xs r.1 ∧ SlV .int (r.2.at T 0) xs r.1 :=
  W.mono (clone_w h.up hb) fun _ hr => ⟨hr.2, hr.1, hr.1.at0 hn.z⟩
section
variable {σ τ : Heap} {T T' : Tg} {lp n id k : Nat} {h : PH} {s s1 s' : PS} {l f x out : Int} {c c' : List Int} {b g : Bool}
theorem propVars_eq (p : PropH σ T lp h s) (hv : s.vs.length = n + 1) (hn : n ≤ 4000) : S.prop_Prop_Vars (.ptr lp 0) σ = some (n : Int) := by
  obtain ⟨r, e, rfl⟩ : W (S.prop_Prop_Vars (.ptr lp 0) σ) fun r => r = (n : Int) := by
    have k1 := p.obj
    unfold S.prop_Prop_Vars
    repeat' (with_reducible (first | refine W.bind ?_ | refine W.asV ?_ | refine W.fldp ?_ | refine W.nck ?_ | refine W.ldL (Loc.up (by assumption)) (by with_unfolding_all rfl) ?_))
    refine W.to (asgVars_eq p.asg p.vs (by omega)) ?_
    repeat' (with_reducible refine W.ret ?_)
    omega
  exact e
end
end Go.Proofs.YtekehmgfedmflaaDoor.A

/- What a conflict teaches: the plain law. -/
namespace Go.Proofs.YtekehmgfedmflaaDoor.A
open Go
/-- All clauses that are there. -/
def PS.db (s : PS) : List (List Int) := (s.cls.filter fun x => x.2.1).map (·.1)
theorem db_mem {s : PS} {c : List Int} : c ∈ s.db ↔ ∃ (id : Nat) (f : Bool), s.cls[id]? = some (c, true, f) := by
  unfold PS.db
  simp only [List.mem_map, List.mem_filter]
  constructor
  · rintro ⟨⟨d, b, f⟩, ⟨h1, h2⟩, rfl⟩
    obtain ⟨id, hid⟩ := mem_ix h1
    dsimp only at h2; subst h2
    exact ⟨id, f, hid⟩
  · rintro ⟨id, f, h⟩
    exact ⟨(c, true, f), ⟨List.mem_of_getElem? h, rfl⟩, rfl⟩
theorem Der.cut {C : List (List Int)} {s t : List Int} {l : Int} (h : Der C s l) (k : ∀ x ∈ s, Der C t x) : Der C t l := by
  induction h with
  | start h => exact k _ h
  | unit hc hl _ ih => exact .unit hc hl ih
theorem Conf.cut {C : List (List Int)} {s t : List Int} (h : Conf C s) (k : ∀ x ∈ s, Der C t x) : Conf C t := by
  rcases h with ⟨l, h1, h2⟩ | ⟨c, hc, h⟩
  · exact .inl ⟨l, h1.cut k, h2.cut k⟩
  · exact .inr ⟨c, hc, fun x hx => (h x hx).cut k⟩
section
variable {n : Nat} {s : PS} {l x : Int} {A : List Int}
/-- What is true at level 0 follows at once. -/
theorem TrI.der0 (h : TrI n s) : ∀ (i : Nat) l, s.trail[i]? = some l → s.lv l = 0 → Der s.db A l := by
  intro i
  induction i using Nat.strongRecOn with
  | ind i ih =>
    intro l hl h0
    rcases h.rs i l hl with ⟨_, k, h1, _⟩ | ⟨id, c, f, _, h2, h3, h4⟩
    · omega
    · refine .unit (db_mem.2 ⟨id, f, h2⟩) h3 fun x hx hne => ?_
      obtain ⟨j, hj, hx2⟩ := h4 x hx hne
      have h5 := h.mono (Nat.le_of_lt hj) hx2 hl
      have h6 := h.lv _ (List.mem_of_getElem? hx2)
      exact ih j hj _ hx2 (by omega)
/-- What stands on the trail before a place. -/
def bef (s : PS) (k : Nat) (v : Int) : Bool := (s.trail.take k).any fun l => ((l.natAbs : Nat) : Int) == v
def topP (s : PS) (k : Nat) (v : Int) : Bool := (s.lev.getD v.toNat 0 == (s.marks.length : Int)) && bef s k v
theorem bef_iff {k : Nat} {v : Int} : bef s k v = true ↔ ∃ j l, j < k ∧ s.trail[j]? = some l ∧ (l.natAbs : Int) = v := by
  unfold bef
  simp only [List.any_eq_true, beq_iff_eq]
  constructor
  · rintro ⟨l, hl, e⟩
    obtain ⟨j, hj⟩ := mem_ix hl
    have hjk : j < k := by have := get_len hj; simp at this; omega
    exact ⟨j, l, hjk, by rwa [List.getElem?_take_of_lt hjk] at hj, e⟩
  · rintro ⟨j, l, hj, hl, e⟩
    exact ⟨l, List.mem_of_getElem? (i := j) (by rw [List.getElem?_take_of_lt hj]; exact hl), e⟩
theorem topP_iff {k : Nat} {v : Int} : topP s k v = true ↔ ∃ j l, j < k ∧ s.trail[j]? = some l ∧ (l.natAbs : Int) = v ∧ s.lv l = s.marks.length := by
  unfold topP
  rw [Bool.and_eq_true, beq_iff_eq, bef_iff]
  constructor
  · rintro ⟨h1, j, l, h2, h3, h4⟩
    subst h4
    exact ⟨j, l, h2, h3, rfl, h1⟩
  · rintro ⟨j, l, h2, h3, h4, h5⟩
    subst h4
    exact ⟨h5, j, l, h2, h3, rfl⟩
/-- Going back from a conflict: the variables seen, in order; the literals of lower levels; how many of the last level are left. -/
structure LF (n : Nat) (s : PS) (k : Nat) (o rest : List Int) (many : Int) : Prop where
  nd : o.Nodup
  on : ∀ v ∈ o, ∃ x, x ∈ s.trail ∧ (x.natAbs : Int) = v ∧ 0 < s.lv x
  rs : ∀ x ∈ rest, -x ∈ s.trail ∧ 0 < s.lv x ∧ s.lv x < s.marks.length ∧ (x.natAbs : Int) ∈ o
  rn : (rest.map Int.natAbs).Nodup
  cov : ∀ x ∈ s.trail, (x.natAbs : Int) ∈ o → s.lv x = s.marks.length ∨ -x ∈ rest
  many : many = (o.countP (topP s k) : Nat)
/-- What it says of a conflict. -/
def LImp (s : PS) (k : Nat) (o rest : List Int) : Prop := ∀ A, (∀ x ∈ rest, Der s.db A (-x)) → (∀ (j : Nat) l, j < k → s.trail[j]? = some l → (l.natAbs : Int) ∈ o → s.lv l = s.marks.length → Der s.db A l) → Conf s.db A
/-- A clause's literal is taken in. -/
def tkS (s : PS) (but : Int) (q : List Int × List Int × Int) (l : Int) : List Int × List Int × Int :=
  if l = but ∨ (l.natAbs : Int) ∈ q.1 ∨ s.lv l = 0 then q else (q.1 ++ [(l.natAbs : Int)], if s.lv l = s.marks.length then q.2.1 else q.2.1 ++ [l], if s.lv l = s.marks.length then q.2.2 + 1 else q.2.2)
def tkF (s : PS) (but : Int) (c : List Int) (q : List Int × List Int × Int) : List Int × List Int × Int := c.foldl (tkS s but) q
theorem tkS_law (h : TrI n s) {k : Nat} {but : Int} {q : List Int × List Int × Int} (L : LF n s k q.1 q.2.1 q.2.2) (hl : l ≠ but → ∃ j, j < k ∧ s.trail[j]? = some (-l)) :
    LF n s k (tkS s but q l).1 (tkS s but q l).2.1 (tkS s but q l).2.2 ∧ (∀ v ∈ q.1, v ∈ (tkS s but q l).1) ∧ (∀ x ∈ q.2.1, x ∈ (tkS s but q l).2.1) ∧ (l = but ∨ s.lv l = 0 ∨ (l.natAbs : Int) ∈ (tkS s but q l).1) := by
  unfold tkS
  by_cases hc : l = but ∨ (l.natAbs : Int) ∈ q.1 ∨ s.lv l = 0
  · rw [if_pos hc]
    refine ⟨L, fun _ h => h, fun _ h => h, ?_⟩
    rcases hc with e | e | e
    · exact .inl e
    · exact .inr (.inr e)
    · exact .inr (.inl e)
  · rw [if_neg hc]
    have h1 : l ≠ but := fun e => hc (.inl e)
    have h2 : (l.natAbs : Int) ∉ q.1 := fun e => hc (.inr (.inl e))
    have h3 : s.lv l ≠ 0 := fun e => hc (.inr (.inr e))
    obtain ⟨j, hj, hjl⟩ := hl h1
    have hm := List.mem_of_getElem? hjl
    have hlv := h.lv _ hm
    rw [PS.lv_neg] at hlv
    have hnew : ∀ x ∈ s.trail, (x.natAbs : Int) ∈ q.1 ++ [(l.natAbs : Int)] → (x.natAbs : Int) ∈ q.1 ∨ x = -l := fun x hx hxm => by
      rcases List.mem_append.1 hxm with w | w
      · exact .inl w
      · right
        have := List.mem_singleton.1 w
        exact h.abs hx hm (by rw [Int.natAbs_neg]; omega)
    have hnd : (q.1 ++ [(l.natAbs : Int)]).Nodup := List.nodup_append.2 ⟨L.nd, by simp, fun x hx y hy e => h2 (by rw [List.mem_singleton.1 hy] at e; rw [← e]; exact hx)⟩
    have hon : ∀ v ∈ q.1 ++ [(l.natAbs : Int)], ∃ x, x ∈ s.trail ∧ (x.natAbs : Int) = v ∧ 0 < s.lv x := fun v hv => by
      rcases List.mem_append.1 hv with w | w
      · exact L.on v w
      · exact ⟨-l, hm, by rw [Int.natAbs_neg]; exact (List.mem_singleton.1 w).symm, by rw [PS.lv_neg]; omega⟩
    by_cases ht : s.lv l = s.marks.length
    · simp only [if_pos ht]
      refine ⟨⟨hnd, hon, fun x hx => ?_, L.rn, fun x hx hxm => ?_, ?_⟩, fun v hv => by simp [hv], fun _ h => h, .inr (.inr (by simp))⟩
      · obtain ⟨a, b, c, d⟩ := L.rs x hx
        exact ⟨a, b, c, by simp [d]⟩
      · rcases hnew x hx hxm with w | w
        · exact L.cov x hx w
        · subst w; left; rw [PS.lv_neg]; exact ht
      · have : topP s k (l.natAbs : Int) = true := topP_iff.2 ⟨j, -l, hj, hjl, by rw [Int.natAbs_neg], by rw [PS.lv_neg]; exact ht⟩
        rw [List.countP_append, List.countP_cons_of_pos this, List.countP_nil]
        have := L.many
        omega
    · simp only [if_neg ht]
      refine ⟨⟨hnd, hon, fun x hx => ?_, ?_, fun x hx hxm => ?_, ?_⟩, fun v hv => by simp [hv], fun _ h => by simp [h], .inr (.inr (by simp))⟩
      · rcases List.mem_append.1 hx with w | w
        · obtain ⟨a, b, c, d⟩ := L.rs x w
          exact ⟨a, b, c, by simp [d]⟩
        · rw [List.mem_singleton.1 w]
          exact ⟨hm, by omega, by omega, by simp⟩
      · rw [List.map_append]
        refine List.nodup_append.2 ⟨L.rn, by simp, fun a ha b hb e => ?_⟩
        obtain ⟨x, hx, rfl⟩ := List.mem_map.1 ha
        have hb' : b = l.natAbs := by simpa using hb
        subst hb'
        exact h2 (by rw [← e]; exact (L.rs x hx).2.2.2)
      · rcases hnew x hx hxm with w | w
        · rcases L.cov x hx w with q | q
          · exact .inl q
          · exact .inr (by simp [q])
        · subst w; right; simp
      · have : topP s k (l.natAbs : Int) = false := by
          rw [Bool.eq_false_iff]
          intro w
          obtain ⟨j', l', _, g2, g3, g4⟩ := topP_iff.1 w
          have := h.abs (List.mem_of_getElem? g2) hm (by rw [Int.natAbs_neg]; omega)
          subst this
          rw [PS.lv_neg] at g4
          exact ht g4
        rw [List.countP_append, List.countP_cons_of_neg (by rw [this]; simp), List.countP_nil]
        have := L.many
        omega
theorem tkF_law (h : TrI n s) {k : Nat} {but : Int} : ∀ (c : List Int) (q : List Int × List Int × Int), LF n s k q.1 q.2.1 q.2.2 → (∀ x ∈ c, x ≠ but → ∃ j, j < k ∧ s.trail[j]? = some (-x)) →
    LF n s k (tkF s but c q).1 (tkF s but c q).2.1 (tkF s but c q).2.2 ∧ (∀ v ∈ q.1, v ∈ (tkF s but c q).1) ∧ (∀ x ∈ q.2.1, x ∈ (tkF s but c q).2.1) ∧ ∀ x ∈ c, x = but ∨ s.lv x = 0 ∨ (x.natAbs : Int) ∈ (tkF s but c q).1
  | [], q, L, _ => ⟨L, fun _ h => h, fun _ h => h, fun x hx => by cases hx⟩
  | a :: t, q, L, hc => by
    obtain ⟨g1, g2, g3, g4⟩ := tkS_law h L (l := a) (but := but) (hc a (by simp))
    obtain ⟨f1, f2, f3, f4⟩ := tkF_law h t (tkS s but q a) g1 fun x hx => hc x (by simp [hx])
    refine ⟨f1, fun v hv => f2 v (g2 v hv), fun x hx => f3 x (g3 x hx), fun x hx => ?_⟩
    rcases List.mem_cons.1 hx with e | hx
    · subst e
      rcases g4 with w | w | w
      · exact .inl w
      · exact .inr (.inl w)
      · exact .inr (.inr (f2 _ w))
    · exact f4 x hx
/-- The conflict itself. -/
theorem LF.first (h : TrI n s) {id : Nat} {c : List Int} {f : Bool} (hc : s.cls[id]? = some (c, true, f)) (hf : ∀ x ∈ c, val s.vs x = 2) (h0 : (0 : Int) ∉ c) {r : List Int × List Int × Int} (hr : r = tkF s 0 c ([], [], 0)) :
    LF n s s.trail.length r.1 r.2.1 r.2.2 ∧ LImp s s.trail.length r.1 r.2.1 ∧ ((∃ x ∈ c, s.lv x = s.marks.length) → 0 < s.marks.length → 1 ≤ r.2.2) := by
  subst hr
  have hpos : ∀ x ∈ c, x ≠ 0 → ∃ j, j < s.trail.length ∧ s.trail[j]? = some (-x) := fun x hx _ => by
    obtain ⟨j, hj⟩ := mem_ix (h.neg.1 (hf x hx))
    exact ⟨j, get_len hj, hj⟩
  obtain ⟨f1, f2, f3, f4⟩ := tkF_law h c ([], [], 0) (⟨by simp, (fun v hv => by cases hv), (fun x hx => by cases hx), by simp, (fun x _ hx => by cases hx), by simp⟩ : LF n s s.trail.length [] [] 0) hpos
  refine ⟨f1, fun A hA1 hA2 => .inr ⟨c, db_mem.2 ⟨id, f, hc⟩, fun x hx => ?_⟩, fun ⟨x, hx, hxl⟩ h0l => ?_⟩
  · obtain ⟨j, hj, hjx⟩ := hpos x hx (fun e => h0 (e ▸ hx))
    rcases f4 x hx with w | w | w
    · exact absurd hx (w ▸ h0)
    · exact h.der0 j _ hjx (by rw [PS.lv_neg]; exact w)
    · rcases f1.cov (-x) (List.mem_of_getElem? hjx) (by rw [Int.natAbs_neg]; exact w) with q | q
      · exact hA2 j _ hj hjx (by rw [Int.natAbs_neg]; exact w) q
      · rw [Int.neg_neg] at q
        exact hA1 x q
  · obtain ⟨j, hj, hjx⟩ := hpos x hx (fun e => h0 (e ▸ hx))
    rcases f4 x hx with w | w | w
    · exact absurd hx (w ▸ h0)
    · omega
    · have ht : topP s s.trail.length (x.natAbs : Int) = true := topP_iff.2 ⟨j, -x, hj, hjx, by rw [Int.natAbs_neg], by rw [PS.lv_neg]; exact hxl⟩
      have := f1.many
      have h2 : 0 < (tkF s 0 c ([], [], 0)).1.countP (topP s s.trail.length) := List.countP_pos_iff.2 ⟨_, w, ht⟩
      omega
variable {i : Nat} {o rest : List Int} {many : Int}
end
end Go.Proofs.YtekehmgfedmflaaDoor.A

/- Recursion: what comes with some fuel comes with more. -/
namespace Go.Proofs.YtekehmgfedmflaaDoor.A
open Go
/-- What the one comes to, the other does. -/
def MO {R : Type} (o o' : Option R) : Prop := ∀ r, o = some r → o' = some r
section
variable {R S X Y : Type}
theorem MO.rfl (o : Option R) : MO o o := fun _ h => h
theorem MO.none (o : Option R) : MO none o := fun _ h => by cases h
theorem MO.bind {o o' : Option S} {K K' : S → Option R} (h : MO o o') (k : ∀ r, MO (K r) (K' r)) : MO (o.bind K) (o'.bind K') := fun r e => by
  cases ho : o with
  | none => rw [ho] at e; cases e
  | some a =>
    rw [ho] at e
    rw [h a ho]
    exact k a r e
theorem MO.cond {b : Bool} {x x' y y' : Option R} (h : MO x x') (k : MO y y') : MO (cond b x y) (cond b x' y') := by cases b <;> assumption
theorem MO.nilck {p : AVal} {X X' : Option R} (h : MO X X') : MO (nilck p X) (nilck p X') := by
  unfold A.nilck
  split <;> first | exact h | exact MO.none _
theorem MO.asK {kd : Kd} {v : AVal} {K K' : kd.ty → Option R} (h : ∀ a, MO (K a) (K' a)) : MO (asK kd v K) (asK kd v K') := by
  cases kd <;> cases v <;> simp only [A.asK] <;> first | exact h _ | exact MO.none _ | (split <;> first | exact h _ | exact MO.none _)
theorem MO.ld {σ : Heap} {p : AVal} {kd : Kd} {K K' : kd.ty → Option R} (h : ∀ a, MO (K a) (K' a)) : MO (ld σ p kd K) (ld σ p kd K') := by
  unfold A.ld
  repeat' split
  all_goals first | exact MO.asK h | exact MO.none _
theorem MO.lenV {v : AVal} {K K' : Int → Option R} (h : ∀ a, MO (K a) (K' a)) : MO (lenV v K) (lenV v K') := by
  unfold A.lenV
  split <;> first | exact h _ | exact MO.none _
theorem MO.ixA {σ : Heap} {v : AVal} {sz : Nat} {i : Int} {K K' : AVal → Option R} (h : ∀ a, MO (K a) (K' a)) : MO (ixA σ v sz i K) (ixA σ v sz i K') := by
  unfold A.ixA
  repeat' split
  all_goals first | exact h _ | exact MO.none _
theorem MO.newK {σ : Heap} {sz : Nat} {cs : List AVal} {K K' : Nat → Heap → Option R} (h : ∀ a b, MO (K a b) (K' a b)) : MO (newK σ sz cs K) (newK σ sz cs K') := h _ _
theorem MO.appC {σ : Heap} {sz bytes n : Nat} {s : AVal} {xs : List AVal} {K K' : AVal → Heap → Option R} (h : ∀ a b, MO (K a b) (K' a b)) : MO (appC σ sz bytes s xs n K) (appC σ sz bytes s xs n K') := by
  unfold A.appC A.newK
  repeat' split
  all_goals first | exact h _ _ | exact MO.none _
theorem MO.appS {σ : Heap} {sz bytes : Nat} {s x : AVal} {K K' : AVal → Heap → Option R} (h : ∀ a b, MO (K a b) (K' a b)) : MO (appS σ sz bytes s x K) (appS σ sz bytes s x K') := by
  unfold A.appS A.srcK
  repeat' split
  all_goals first | exact MO.appC h | exact MO.none _
theorem MO.scal {v : AVal} {X X' : Option R} (h : MO X X') : MO (scal v X) (scal v X') := by
  unfold A.scal
  split <;> first | exact h | exact MO.none _
theorem MO.stC {σ : Heap} {p : AVal} {vs : List AVal} {K K' : Heap → Option R} (h : ∀ a, MO (K a) (K' a)) : MO (stC σ p vs K) (stC σ p vs K') := by
  unfold A.stC
  repeat' split
  all_goals first | exact h _ | exact MO.none _
theorem MO.loopN {f f' : X → Heap → Option ((X ⊕ Y) × Heap)} (h : ∀ x σ, MO (f x σ) (f' x σ)) : ∀ n x σ, MO (loopN f n x σ) (loopN f' n x σ)
  | 0, x, σ => by simp only [A.loopN]; exact MO.none _
  | n + 1, x, σ => fun r e => by
    simp only [A.loopN] at e ⊢
    cases hf : f x σ with
    | none => rw [hf] at e; cases e
    | some q =>
      rw [hf] at e
      rw [h x σ q hf]
      obtain ⟨q, τ⟩ := q
      cases q with
      | inl x' => exact MO.loopN h n x' τ r e
      | inr y => exact e
theorem MO.loopW {f f' : X → Heap → Option ((X ⊕ Y) × Heap)} (h : ∀ x σ, MO (f x σ) (f' x σ)) {x : X} {σ : Heap} : MO (loopW f x σ) (loopW f' x σ) := fun r e => by
  unfold A.loopW at e
  split at e
  · rename_i hx
    have h2 := hx.choose_spec.choose_spec
    rw [Option.some.inj e] at h2
    exact loopW_of (MO.loopN h _ _ _ _ h2)
  · cases e
end
end Go.Proofs.YtekehmgfedmflaaDoor.A

/- What a conflict teaches, in the heap: clauses are taken in. -/
namespace Go.Proofs.YtekehmgfedmflaaDoor.A
open Go
def tI : Nat → Bool := fun j => decide (16 ≤ j) && decide (j ≤ 29)
def sI : Nat → Bool := fun j => decide (16 ≤ j) && decide (j ≤ 19)
theorem Hop.st {σ τ : Heap} {T T' : Tg} (H : Hop sI σ T τ T') : Hop tI σ T τ T' := H.sub fun i hi => by simp only [sI, tI, Bool.and_eq_true, decide_eq_true_eq] at hi ⊢; omega
section
variable {σ τ : Heap} {T T' : Tg} {lp ls lm n u : Nat} {h : PH} {s : PS} {xo xr x : AVal} {ps : List (Int × AVal)} {q : List Int × List Int × Int} {c : List Int} {but : Int}
end
end Go.Proofs.YtekehmgfedmflaaDoor.A

/- What a conflict teaches, in the heap: made shorter. -/
namespace Go.Proofs.YtekehmgfedmflaaDoor.A
open Go
/-- A variable's value follows of those that are in, and stand ahead of it. -/
def Fol (s : PS) (IN : List Int) (v : Int) : Prop := ∃ (i : Nat) (l : Int), s.trail[i]? = some l ∧ (l.natAbs : Int) = v ∧ ∀ A, (∀ (j : Nat) y, j < i → s.trail[j]? = some y → (y.natAbs : Int) ∈ IN → Der s.db A y) → Der s.db A l
structure ShH (s : PS) (σ : Heap) (T : Tg) (lp ls l1 l3 : Nat) (IN : List Int) : Prop where
  obj : Loc (σ.at T 16) ls [.ptr lp 0, .map l1, .map l3]
  mi : ∃ ps, MapV (σ.at T 17) l1 ps ∧ ∀ v, look ps v = if v ∈ IN then some (.bool true) else none
  mw : ∃ ps, MapV (σ.at T 23) l3 ps ∧ ∀ v, look ps v = none ∨ ∃ b, look ps v = some (.bool b) ∧ (b = true → Fol s IN v)
section
variable {σ τ : Heap} {T T' : Tg} {lp ls l1 l3 n u id : Nat} {h : PH} {s : PS} {x : AVal} {c IN : List Int} {f : Bool} {I : Nat → Bool}
theorem ShH.hop (S1 : ShH s σ T lp ls l1 l3 IN) (H : Hop I σ T τ T') (h1 : I 16 = false := by rfl) (h2 : I 17 = false := by rfl) (h3 : I 23 = false := by rfl) : ShH s τ T' lp ls l1 l3 IN := by
  obtain ⟨k1, ⟨ps, k2, k3⟩, qs, k4, k5⟩ := S1
  exact ⟨k1.hop H h1, ⟨ps, k2.hop H h2, k3⟩, qs, k4.hop H h3, k5⟩
theorem ShH.hle (S1 : ShH s σ T lp ls l1 l3 IN) (L : Hle σ τ) : ShH s τ T lp ls l1 l3 IN := by
  obtain ⟨k1, ⟨ps, k2, k3⟩, qs, k4, k5⟩ := S1
  exact ⟨k1.hle L, ⟨ps, k2.hle L, k3⟩, qs, k4.hle L, k5⟩
end
end Go.Proofs.YtekehmgfedmflaaDoor.A

/- The heap of variables, in the heap: up, down, in, out. -/
namespace Go.Proofs.YtekehmgfedmflaaDoor.A
open Go
section
variable {σ τ : Heap} {T T' : Tg} {lh k v : Nat} {xs xp xh : AVal} {sc pl hs : List Int}
theorem set_same {xs : List Int} {i : Nat} {a : Int} (h : xs[i]? = some a) : xs.set i a = xs := by
  obtain ⟨h1, h2⟩ := List.getElem?_eq_some_iff.1 h
  rw [← h2, List.set_getElem_self]
theorem HW.same (H : HW sc pl hs) (hk : hs[k]? = some (v : Int)) (hv : v < sc.length) : pl.set v ((k : Int) + 1) = pl := by
  have h1 := (H.at_ v k hv).2 hk
  have hl := H.len
  refine set_same ?_
  rw [List.getD_eq_getElem?_getD, List.getElem?_eq_getElem (by omega)] at h1
  rw [List.getElem?_eq_getElem (by omega)]
  exact congrArg some h1
theorem HW.nat (H : HW sc pl hs) {x : Int} (hk : hs[k]? = some x) : ∃ v : Nat, x = v ∧ v < sc.length := by
  have := H.rng k x hk
  exact ⟨x.toNat, by omega, by omega⟩
theorem perm_hole {q w : Nat} (hk : k < hs.length) (hq : q < hs.length) (hne : q ≠ k) (hw : hs[q]? = some (w : Int)) : ((hs.set k (w : Int)).set q (v : Int)).Perm (hs.set k (v : Int)) := by
  have h1 : swapL (hs.set k (v : Int)) k q = (hs.set k (w : Int)).set q (v : Int) := by
    unfold swapL
    rw [getD_setI hk, getD_setI hk, if_neg (fun e => hne e.symm), if_pos rfl, List.set_set]
    rw [List.getD_eq_getElem?_getD, hw]; rfl
  rw [← h1]
  exact swapL_perm (by simpa using hk) (by simpa using hq)
theorem tdiv2 (j : Nat) : Int.tdiv (j : Int) 2 = ((j / 2 : Nat) : Int) := rfl
theorem heapUp_w (p : HeapH σ T lh xs xp xh sc pl hs) (hn : Tn σ T) (hv : hs[k]? = some (v : Int)) (hvl : v < sc.length) (H : HW sc (pl.set v ((k : Int) + 1)) hs) (hpl : pl.length = sc.length) (hb : hs.length ≤ 100000) :
    W (S.heap_Heap_up (.ptr lh 0) (k : Int) σ) fun r => ∃ pl' hs', Hop hI σ T r.2 T ∧ HeapH r.2 T lh xs xp xh sc pl' hs' ∧ HW sc pl' hs' ∧ hs'.Perm hs := by
  have hk := get_len hv
  have p0 := p
  obtain ⟨k1, k2, k3, k4⟩ := p
  unfold S.heap_Heap_up
  repeat' (with_reducible (first | refine W.bind ?_ | refine W.asV ?_ | refine W.fldp ?_ | refine W.nck ?_ | refine W.ldL (Loc.up (by assumption)) (by with_unfolding_all rfl) ?_ | refine W.ixIc (Own.slT (by assumption)) (by assumption) ?_))
  refine W.mono (P := fun r => ∃ (k' : Nat) (pl1 hs1 : List Int), r.1 = (k' : Int) ∧ k' < hs1.length ∧ hs1.length = hs.length ∧ Hop hI σ T r.2 T ∧ HeapH r.2 T lh xs xp xh sc pl1 hs1 ∧ pl1.length = sc.length ∧ HW sc (pl1.set v ((k' : Int) + 1)) (hs1.set k' (v : Int)) ∧ (hs1.set k' (v : Int)).Perm hs) ?_ fun r hr => ?_
  · refine W.loopI (m := k) (fun m (x : Int) τ => ∃ (pl1 hs1 : List Int), x = (m : Int) ∧ m < hs1.length ∧ hs1.length = hs.length ∧ Hop hI σ T τ T ∧ HeapH τ T lh xs xp xh sc pl1 hs1 ∧ pl1.length = sc.length ∧ HW sc (pl1.set v ((m : Int) + 1)) (hs1.set m (v : Int)) ∧ (hs1.set m (v : Int)).Perm hs) ⟨pl, hs, rfl, hk, rfl, Hop.refl hn, p0, hpl, by rw [set_same hv]; exact H, by rw [set_same hv]⟩ fun m x τ hI => ?_
    obtain ⟨pl1, hs1, rfl, hm, hle, HH, p1, hpl1, H1, hperm⟩ := hI
    unfold S.heap_Heap_up.b0
    have done : ∀ (hh : True), W (some ((.inr (m : Int) : Int ⊕ Int), τ)) (LQ (fun (x' : Int) σ' => ∃ m', m' < m ∧ ∃ (pl1 hs1 : List Int), x' = (m' : Int) ∧ m' < hs1.length ∧ hs1.length = hs.length ∧ Hop hI σ T σ' T ∧ HeapH σ' T lh xs xp xh sc pl1 hs1 ∧ pl1.length = sc.length ∧ HW sc (pl1.set v ((m' : Int) + 1)) (hs1.set m' (v : Int)) ∧ (hs1.set m' (v : Int)).Perm hs)
        (fun r : Int × Heap => ∃ (k' : Nat) (pl1 hs1 : List Int), r.1 = (k' : Int) ∧ k' < hs1.length ∧ hs1.length = hs.length ∧ Hop hI σ T r.2 T ∧ HeapH r.2 T lh xs xp xh sc pl1 hs1 ∧ pl1.length = sc.length ∧ HW sc (pl1.set v ((k' : Int) + 1)) (hs1.set k' (v : Int)) ∧ (hs1.set k' (v : Int)).Perm hs)) := fun _ => W.stop ⟨m, pl1, hs1, rfl, hm, hle, HH, p1, hpl1, H1, hperm⟩
    refine W.bind ?_
    cases m with
    | zero =>
      refine W.condF (by simp) ?_
      refine W.ret ?_
      show W _ _
      refine W.condF rfl ?_
      exact done trivial
    | succ j =>
      have w1 : IntKind.i64.wrap (((j + 1 : Nat) : Int) - 1) = (j : Int) := by rw [wrapS] <;> omega
      have w2 : IntKind.i64.wrap (Int.tdiv (j : Int) 2) = ((j / 2 : Nat) : Int) := by rw [tdiv2, wrapS] <;> omega
      rw [w1, w2]
      refine W.condT (by simp) ?_
      obtain ⟨a, ha⟩ := get_ex (xs := hs1) (i := j / 2) (by omega)
      have hne : j / 2 ≠ j + 1 := by omega
      obtain ⟨w, rfl, hw⟩ := H1.nat (k := j / 2) (x := a) (by rw [get_setI hm, if_neg (fun e => hne e.symm)]; exact ha)
      have p1' := p1
      obtain ⟨k1, k2, k3, k4⟩ := p1'
      repeat' (with_reducible (first | refine W.bind ?_ | refine W.asV ?_ | refine W.fldp ?_ | refine W.nck ?_ | refine W.ldL (Loc.up (by assumption)) (by with_unfolding_all rfl) ?_ | refine W.ixIc (Own.slT (by assumption)) (by assumption) ?_))
      refine W.mono (heapAhead_w p1 hvl hw) fun b _ => ?_
      refine W.ret ?_
      show W _ _
      cases b with
      | false =>
        refine W.condF rfl ?_
        exact done trivial
      | true =>
        refine W.condT rfl ?_
        repeat' (with_reducible (first | refine W.bind ?_ | refine W.asV ?_ | refine W.fldp ?_ | refine W.nck ?_ | refine W.ldL (Loc.up (by assumption)) (by with_unfolding_all rfl) ?_ | refine W.ixIc (Own.slT (by assumption)) (by assumption) ?_))
        refine W.mono (heapPut_w p1 HH.tn (k := j + 1) (v := w) hm (by omega) (by omega)) fun r hr => ?_
        obtain ⟨r, τ2⟩ := r
        obtain ⟨H2, p2⟩ := hr
        dsimp only at H2 p2 ⊢
        repeat' (with_reducible refine W.next ?_)
        obtain ⟨g1, g2, g3⟩ := HW.swap (q := j / 2) hpl1 hvl hm (by omega) hne ha H1
        exact ⟨j / 2, by omega, _, _, rfl, by simp; omega, by simp [hle], HH.trans H2, p2, by simp [hpl1], g3, (perm_hole hm (by omega) hne ha).trans hperm⟩
  · obtain ⟨r, τ1⟩ := r
    obtain ⟨k', pl1, hs1, e, hm, hle, HH, p1, hpl1, H1, hperm⟩ := hr
    dsimp only at e HH p1 ⊢
    subst e
    refine W.bind ?_
    refine W.mono (heapPut_w p1 HH.tn (k := k') (v := v) hm (by omega) (by omega)) fun r hr => ?_
    obtain ⟨r, τ2⟩ := r
    obtain ⟨H2, p2⟩ := hr
    repeat' (with_reducible refine W.ret ?_)
    exact ⟨_, _, HH.trans H2, p2, H1, hperm⟩
end
end Go.Proofs.YtekehmgfedmflaaDoor.A

/- The heap of variables: which are in it; the plain law, and Push, take, Bump, Halve, Grow, New. -/
namespace Go.Proofs.YtekehmgfedmflaaDoor.A
open Go
section
variable {k v : Nat} {sc sc' pl hs : List Int}
theorem HW.mem (H : HW sc pl hs) (hv : v < sc.length) : (v : Int) ∈ hs ↔ pl.getD v 0 ≠ 0 := by
  constructor
  · intro h
    obtain ⟨j, hj⟩ := mem_ix h
    have := (H.at_ v j hv).2 hj
    omega
  · intro h
    have := H.nn v
    exact List.mem_of_getElem? ((H.at_ v (pl.getD v 0 - 1).toNat hv).1 (by omega))
theorem HW.nod (H : HW sc pl hs) : hs.Nodup := by
  rw [List.nodup_iff_pairwise_ne, List.pairwise_iff_getElem]
  intro i j hi hj hij e
  obtain ⟨u, eu, hu⟩ := H.nat (k := i) (List.getElem?_eq_getElem hi)
  have h1 := (H.at_ u i hu).2 (by rw [← eu]; exact List.getElem?_eq_getElem hi)
  have h2 := (H.at_ u j hu).2 (by rw [← eu, e]; exact List.getElem?_eq_getElem hj)
  omega
theorem HW.lenH (H : HW sc pl hs) : hs.length + 1 ≤ sc.length ∨ hs = [] := by
  by_cases he : hs = []
  · exact .inr he
  left
  have hall : ∀ x ∈ hs, 1 ≤ x ∧ x < sc.length := fun x hx => by
    obtain ⟨i, hi⟩ := mem_ix hx
    have := H.rng i x hi
    omega
  have := nd_bound (sc.length - 1) (hs.map Int.toNat) ?_ fun x hx => by
    obtain ⟨y, hy, rfl⟩ := List.mem_map.1 hx
    have := hall y hy
    omega
  · obtain ⟨x, hx⟩ := List.exists_mem_of_ne_nil hs he
    have := hall x hx
    simp at *; omega
  · unfold List.Nodup
    rw [List.pairwise_map]
    exact H.nod.imp_of_mem fun {a b} ha hb hne e => hne (by
      have := hall a ha
      have := hall b hb
      omega)
theorem HW.push (H : HW sc pl hs) (hv : v < sc.length) (h0 : 0 < v) (hp : pl.getD v 0 = 0) : HW sc (pl.set v ((hs.length : Int) + 1)) (hs ++ [(v : Int)]) := by
  have hl := H.len
  refine ⟨by simp [hl], fun j x hx => ?_, fun u j hu => ?_, fun u => ?_⟩
  · rcases get_push hx with q | ⟨_, q⟩
    · exact H.rng j x q
    · subst q; omega
  · rw [getD_setI (by omega)]
    have A := H.at_ u j hu
    by_cases e : v = u
    · subst e
      rw [if_pos rfl]
      constructor
      · intro h
        have : j = hs.length := by omega
        subst this; simp
      · intro h
        rcases get_push h with q | ⟨q, _⟩
        · have := A.2 q; omega
        · omega
    · rw [if_neg e, A]
      constructor
      · intro h; rw [List.getElem?_append_left (get_len h)]; exact h
      · intro h
        rcases get_push h with q | ⟨_, q⟩
        · exact q
        · exact absurd (Int.ofNat.inj q).symm e
  · rw [getD_setI (by omega)]
    have := H.nn u
    split <;> omega
theorem HW.grow (H : HW sc pl hs) : HW (sc ++ [0]) (pl ++ [0]) hs := by
  have hl := H.len
  have hg : ∀ u, (pl ++ [(0 : Int)]).getD u 0 = pl.getD u 0 := fun u => by
    have := getD_rep (xs := pl) (d := (0 : Int)) (v := u) (m := 1)
    exact this
  refine ⟨by simp [hl], fun j x hx => ?_, fun u j hu => ?_, fun u => by rw [hg]; exact H.nn u⟩
  · have := H.rng j x hx
    simp; omega
  · rw [hg]
    by_cases e : u < sc.length
    · exact H.at_ u j e
    · have h0 : pl.getD u 0 = 0 := by rw [List.getD_eq_getElem?_getD, List.getElem?_eq_none (by omega)]; rfl
      rw [h0]
      constructor
      · intro h; omega
      · intro h
        have := H.rng j u h
        omega
end
/-- The heap, and which are in it. -/
def HpI (σ : Heap) (T : Tg) (lh N : Nat) (hs : List Int) : Prop := ∃ xs xp xh sc pl, HeapH σ T lh xs xp xh sc pl hs ∧ HW sc pl hs ∧ sc.length = N + 1
section
variable {σ τ : Heap} {T T' : Tg} {lh k v N : Nat} {hs : List Int} {I : Nat → Bool}
theorem HpI.hop (p : HpI σ T lh N hs) (H : Hop I σ T τ T') (h1 : ∀ j, hI j = true → I j = false) : HpI τ T' lh N hs := by
  obtain ⟨xs, xp, xh, sc, pl, p, q⟩ := p
  exact ⟨xs, xp, xh, sc, pl, p.hop H h1, q⟩
theorem HpI.hle (p : HpI σ T lh N hs) (L : Hle σ τ) : HpI τ T lh N hs := by
  obtain ⟨xs, xp, xh, sc, pl, p, q⟩ := p
  exact ⟨xs, xp, xh, sc, pl, p.hle L, q⟩
theorem HpI.len (p : HpI σ T lh N hs) : hs.length ≤ N := by
  obtain ⟨xs, xp, xh, sc, pl, p, H, e⟩ := p
  rcases H.lenH with q | q
  · omega
  · subst q; simp
theorem HpI.rng (p : HpI σ T lh N hs) {x : Int} (hx : x ∈ hs) : 1 ≤ x ∧ x ≤ N := by
  obtain ⟨xs, xp, xh, sc, pl, p, H, e⟩ := p
  obtain ⟨i, hi⟩ := mem_ix hx
  have := H.rng i x hi
  omega
theorem heapPush_w (p : HpI σ T lh N hs) (hn : Tn σ T) (hN : N ≤ 4000) (h0 : 0 < v) (hv : v ≤ N) : W (S.heap_Heap_Push (.ptr lh 0) (v : Int) σ) fun r => ∃ T' hs', Hop hI σ T r.2 T' ∧ HpI r.2 T' lh N hs' ∧ ∀ x, x ∈ hs' ↔ x ∈ hs ∨ x = (v : Int) := by
  have hlen := p.len
  obtain ⟨xs, xp, xh, sc, pl, p, H, e⟩ := p
  have hl := H.len
  have hvl : v < sc.length := by omega
  obtain ⟨a, ha⟩ := get_ex (xs := pl) (i := v) (by omega)
  have hpa : pl.getD v 0 = a := by rw [List.getD_eq_getElem?_getD, ha]; rfl
  have hnn := H.nn v
  have p0 := p
  obtain ⟨k1, k2, k3, k4⟩ := p
  unfold S.heap_Heap_Push
  repeat' (with_reducible refine W.bind ?_)
  refine W.to (heapIs_eq p0) ?_
  repeat' (with_reducible refine W.ret ?_)
  refine W.condF (by simp; omega) ?_
  repeat' (with_reducible (first | refine W.ret ?_ | refine W.asV ?_ | refine W.fldp ?_ | refine W.nck ?_ | refine W.ldL (Loc.up (by assumption)) (by with_unfolding_all rfl) ?_ | refine W.ixIc (Own.slT (by assumption)) (by assumption) ?_))
  by_cases hz : a > 0
  · refine W.condT (by simp; omega) ?_
    repeat' (with_reducible refine W.ret ?_)
    have hm := (H.mem hvl).2 (by omega)
    exact ⟨T, hs, Hop.refl hn, ⟨xs, xp, xh, sc, pl, p0, H, e⟩, fun x => ⟨.inl, fun q => q.elim id fun q => q ▸ hm⟩⟩
  · refine W.condF (by simp; omega) ?_
    repeat' (with_reducible (first | refine W.asV ?_ | refine W.fldp ?_ | refine W.nck ?_ | refine W.ldL (Loc.up (by assumption)) (by with_unfolding_all rfl) ?_))
    refine W.own_push (bytes := 8) Vw.int_flat k4 hn (a := (v : Int)) rfl (by omega) (by omega) fun x2 τ2 T2 k4 H2 => ?_
    have HH : Hop hI σ T τ2 T2 := (Hop.refl hn).inH H2
    replace k1 := k1.hop H2
    replace k2 := k2.hop H2
    replace k3 := k3.hop H2
    replace hn := H2.tn
    repeat' (with_reducible (first | refine W.fldp ?_ | refine W.nck ?_ | refine W.scalS (Own.slT (by assumption)) ?_))
    refine W.stT k1 hn (Nat.le_of_ble_eq_true (by rfl)) fun τ3 H3 k1 hnτ3 => ?_
    replace HH := HH.inH H3
    replace k2 := k2.hop H3
    replace k3 := k3.hop H3
    replace k4 := k4.hop H3
    replace hn := H3.tn
    repeat' (with_reducible (first | refine W.bind ?_ | refine W.asV ?_ | refine W.fldp ?_ | refine W.nck ?_ | refine W.ldL (Loc.up (by assumption)) (by with_unfolding_all rfl) ?_ | refine W.len (Own.slT (by assumption)) ?_))
    have w : IntKind.i64.wrap (((hs ++ [(v : Int)]).length : Int) - 1) = (hs.length : Int) := by rw [wrapS] <;> simp <;> omega
    rw [w]
    have HP := H.push hvl h0 (by omega)
    refine W.mono (heapUp_w (k := hs.length) (v := v) ⟨k1, k2, k3, k4⟩ HH.tn (by simp) hvl HP hl (by simp; omega)) fun r hr => ?_
    obtain ⟨r, τ4⟩ := r
    obtain ⟨pl', hs', H4, p4, HW4, hperm⟩ := hr
    repeat' (with_reducible refine W.ret ?_)
    refine ⟨T2, hs', HH.trans H4, ⟨_, _, _, _, _, p4, HW4, e⟩, fun x => ?_⟩
    rw [hperm.mem_iff]; simp
end
end Go.Proofs.YtekehmgfedmflaaDoor.A

/- The heap of variables: Grow, New; one of the best is taken out. -/
namespace Go.Proofs.YtekehmgfedmflaaDoor.A
open Go
section
variable {σ τ : Heap} {T T' : Tg} {lh k v N vars : Nat} {hs : List Int} {I : Nat → Bool}
theorem heapGrow_w (p : HpI σ T lh N hs) (hn : Tn σ T) (hN : N ≤ 4000) (hv : vars ≤ 4000) : W (S.heap_Heap_Grow (.ptr lh 0) (vars : Int) σ) fun r => ∃ T' hs', Hop hI σ T r.2 T' ∧ HpI r.2 T' lh (max N vars) hs' ∧ ∀ x : Int, x ∈ hs' ↔ x ∈ hs ∨ ((N : Int) < x ∧ x ≤ vars) := by
  unfold S.heap_Heap_Grow
  refine W.bind ?_
  refine W.mono (P := fun r => ∃ T' hs', Hop hI σ T r.2 T' ∧ HpI r.2 T' lh (max N vars) hs' ∧ ∀ x : Int, x ∈ hs' ↔ x ∈ hs ∨ ((N : Int) < x ∧ x ≤ vars)) ?_ fun r hr => W.ret hr
  refine W.loopI (m := vars - N) (fun m (_ : Unit) τ => ∃ (T' : Tg) (hs' : List Int) (K : Nat), Hop hI σ T τ T' ∧ HpI τ T' lh K hs' ∧ N ≤ K ∧ (K = N ∨ K ≤ vars) ∧ m = vars - K ∧ ∀ x : Int, x ∈ hs' ↔ x ∈ hs ∨ ((N : Int) < x ∧ x ≤ K)) ⟨T, hs, N, Hop.refl hn, p, Nat.le_refl _, .inl rfl, rfl, fun x => ⟨.inl, fun q => q.elim id fun q => by omega⟩⟩ fun m _ τ hI2 => ?_
  obtain ⟨T1, hs1, K, HH, p1, hK, hK2, rfl, hmm⟩ := hI2
  have hlen := p1.len
  obtain ⟨xs, xp, xh, sc, pl, ⟨k1, k2, k3, k4⟩, H, e⟩ := p1
  have hl := H.len
  unfold S.heap_Heap_Grow.b0
  repeat' (with_reducible (first | refine W.bind ?_ | refine W.asV ?_ | refine W.fldp ?_ | refine W.nck ?_ | refine W.ldL (Loc.up (by assumption)) (by with_unfolding_all rfl) ?_ | refine W.len (Own.slT (by assumption)) ?_))
  refine W.to (cut_eq (by omega) (by omega)) ?_
  repeat' (with_reducible refine W.ret ?_)
  (with_reducible refine W.cnd (fun hlt => ?_) (fun hlt => ?_) <;> (try simp only [q1, q2, q3, q4, q5, q6, q7, q8, q9, q10, q11, q12, q13, q14, q15, q16, q17, q18, q19, q20, q21, q22, q23, q24, q25, q26, q27, q28, q29, q30, Kd.ty] at hlt) <;> (try (exfalso; omega)))
  · have k1o := k1
    repeat' (with_reducible (first | refine W.asV ?_ | refine W.fldp ?_ | refine W.nck ?_ | refine W.ldL (Loc.up (by assumption)) (by with_unfolding_all rfl) ?_))
    refine W.own_push (bytes := 8) Vw.int_flat k2 HH.tn (a := (0 : Int)) rfl (by omega) (by omega) fun x2 τ2 T2 k2 H2 => ?_
    replace HH := HH.inH H2
    replace k1 := k1.hop H2
    replace k3 := k3.hop H2
    replace k4 := k4.hop H2
    replace hn := H2.tn
    repeat' (with_reducible (first | refine W.asV ?_ | refine W.chk rfl ?_ | refine W.fldp ?_ | refine W.nck ?_ | refine W.ldL (Loc.up (by assumption)) (by with_unfolding_all rfl) ?_))
    refine W.own_push (bytes := 8) Vw.int_flat k3 HH.tn (a := (0 : Int)) rfl (by omega) (by omega) fun x3 τ3 T3 k3 H3 => ?_
    replace HH := HH.inH H3
    replace k1 := k1.hop H3
    replace k2 := k2.hop H3
    replace k4 := k4.hop H3
    replace hn := H3.tn
    repeat' (with_reducible (first | refine W.fldp ?_ | refine W.nck ?_ | refine W.scalS (Own.slT (by assumption)) ?_))
    refine W.stT k1 hn (Nat.le_of_ble_eq_true (by rfl)) fun τ4 H4 k1 hnτ4 => ?_
    replace HH := HH.inH H4
    replace k2 := k2.hop H4
    replace k3 := k3.hop H4
    replace k4 := k4.hop H4
    replace hn := H4.tn
    repeat' (with_reducible (first | refine W.fldp ?_ | refine W.nck ?_ | refine W.scalS (Own.slT (by assumption)) ?_))
    refine W.stT k1 hn (Nat.le_of_ble_eq_true (by rfl)) fun τ5 H5 k1 hnτ5 => ?_
    replace HH := HH.inH H5
    replace k2 := k2.hop H5
    replace k3 := k3.hop H5
    replace k4 := k4.hop H5
    replace hn := H5.tn
    repeat' (with_reducible (first | refine W.bind ?_ | refine W.asV ?_ | refine W.fldp ?_ | refine W.nck ?_ | refine W.ldL (Loc.up (by assumption)) (by with_unfolding_all rfl) ?_ | refine W.len (Own.slT (by assumption)) ?_))
    have w : IntKind.i64.wrap (((sc ++ [(0 : Int)]).length : Int) - 1) = ((K + 1 : Nat) : Int) := by rw [wrapS] <;> simp <;> omega
    rw [w]
    have p5 : HpI τ5 T3 lh (K + 1) hs1 := ⟨_, _, _, _, _, ⟨k1, k2, k3, k4⟩, H.grow, by simp [e]⟩
    refine W.mono (heapPush_w (v := K + 1) p5 HH.tn (by omega) (by omega) (by omega)) fun r hr => ?_
    obtain ⟨r, τ6⟩ := r
    obtain ⟨T6, hs6, H6, p6, hm6⟩ := hr
    repeat' (with_reducible refine W.next ?_)
    refine ⟨vars - (K + 1), by omega, T6, hs6, K + 1, HH.trans H6, p6, by omega, .inr (by omega), rfl, fun x => ?_⟩
    rw [hm6, hmm]
    constructor
    · rintro ((q | q) | q)
      · exact .inl q
      · exact .inr (by omega)
      · exact .inr (by omega)
    · rintro (q | q)
      · exact .inl (.inl q)
      · by_cases e2 : x = ((K + 1 : Nat) : Int)
        · exact .inr e2
        · exact .inl (.inr (by omega))
  · repeat' (with_reducible refine W.stop ?_)
    have : max N vars = K := by omega
    rw [this]
    refine ⟨T1, hs1, HH, ⟨_, _, _, _, _, ⟨k1, k2, k3, k4⟩, H, e⟩, fun x => ?_⟩
    rw [hmm]
    constructor
    · rintro (q | q)
      · exact .inl q
      · rcases hK2 with w | w
        · omega
        · exact .inr (by omega)
    · rintro (q | q)
      · exact .inl q
      · exact .inr (by omega)
theorem heapNew_w (hn : Tn σ T) : W (S.heap_New 0 σ) fun r => ∃ T' lh, r.1 = .ptr lh 0 ∧ Hop hI σ T r.2 T' ∧ HpI r.2 T' lh 0 [] := by
  unfold S.heap_New
  refine W.mkT (v := Vw.int) 12 hn (0 : Int) rfl (fun _ => rfl) (n := 1) (by omega) (by omega) rfl fun x τ1 T1 H1 k2 _ => ?_
  have HH : Hop hI σ T τ1 T1 := (Hop.refl hn).inH H1
  refine W.mkT (v := Vw.int) 13 HH.tn (0 : Int) rfl (fun _ => rfl) (n := 1) (by omega) (by omega) rfl fun y τ2 T2 H2 k3 _ => ?_
  replace HH := HH.inH H2
  replace k2 := k2.hop H2
  replace hn := H2.tn
  repeat' (with_reducible refine W.scalS (Own.slT (by assumption)) ?_)
  refine W.newT 11 hn fun l τ3 T3 hl H3 k1 hnτ3 => ?_
  replace HH := HH.inH H3
  replace k2 := k2.hop H3
  replace k3 := k3.hop H3
  replace hn := H3.tn
  have p3 : HpI τ3 T3 l 0 [] := ⟨_, _, _, _, _, ⟨k1, k2, k3, .nil⟩, ⟨rfl, fun k v h => by simp at h, fun v k hv => by
    have : v = 0 := by simpa using hv
    subst this
    simp; omega, fun v => by
    cases v with
    | zero => simp
    | succ v => simp⟩, rfl⟩
  refine W.bind ?_
  refine W.mono (heapGrow_w (vars := 0) p3 HH.tn (by omega) (by omega)) fun r hr => ?_
  obtain ⟨r, τ4⟩ := r
  obtain ⟨T4, hs4, H4, p4, hm4⟩ := hr
  repeat' (with_reducible refine W.ret ?_)
  have : hs4 = [] := by
    cases hs4 with
    | nil => rfl
    | cons a t =>
      have := (hm4 a).1 (by simp)
      rcases this with q | q
      · cases q
      · omega
  subst this
  exact ⟨T4, l, rfl, HH.trans H4, p4⟩
def bI : Nat → Bool := fun j => decide (24 ≤ j) && decide (j ≤ 29)
theorem Hop.inB {σ0 σ τ : Heap} {T0 T T' : Tg} {t : Nat} (h : Hop bI σ0 T0 σ T) (H : Hop (only t) σ T τ T') (ht : bI t = true := by rfl) : Hop bI σ0 T0 τ T' := h.trans (H.sub (fun i hi => by
  have : i = t := by simpa using hi
  rw [this]; exact ht))
section
variable {σ τ : Heap} {T T' : Tg} {lh N l1 l3 l5 : Nat} {hs out : List Int}
theorem HpI.hopB (p : HpI σ T lh N hs) {t : Nat} (H : Hop (only t) σ T τ T') (ht : hI t = false := by rfl) : HpI τ T' lh N hs := p.hop H fun j hj => by
  simp only [only, beq_eq_false_iff_ne]
  intro e; subst e; rw [ht] at hj; cases hj
end
end
end Go.Proofs.YtekehmgfedmflaaDoor.A

/- The heap's Pop; the script's pace. -/
namespace Go.Proofs.YtekehmgfedmflaaDoor.A
open Go
def hbI : Nat → Bool := fun j => (decide (11 ≤ j) && decide (j ≤ 14)) || (decide (24 ≤ j) && decide (j ≤ 29))
theorem Hop.hb {σ τ : Heap} {T T' : Tg} (H : Hop hI σ T τ T') : Hop hbI σ T τ T' := H.sub fun i hi => by simp only [hI, hbI, Bool.or_eq_true, Bool.and_eq_true, decide_eq_true_eq] at hi ⊢; omega
section
variable {σ τ : Heap} {T T' : Tg} {lh N : Nat} {hs : List Int}
/-! ### The pace -/
def TnI (σ : Heap) (T : Tg) (x : AVal) (k : Int) : Prop := ∃ xs : List Int, SlV .int (σ.at T 0) xs x ∧ xs.length ≤ 1000000 ∧ 0 ≤ k ∧ (xs.length = 0 ∨ k < xs.length)
structure PcI (σ : Heap) (T : Tg) (lq : Nat) (most since least : Int) : Prop where
  ex : ∃ x0 k0 x1 k1 x2 k2 x3 k3 came, Loc (σ.at T 30) lq [x0, .int .i64 k0, x1, .int .i64 k1, x2, .int .i64 k2, x3, .int .i64 k3, .int .i64 most, .int .i64 came, .int .i64 since, .int .i64 least] ∧ TnI σ T x0 k0 ∧ TnI σ T x1 k1 ∧ TnI σ T x2 k2 ∧ TnI σ T x3 k3
variable {lq : Nat} {most since least k : Int} {x : AVal} {I : Nat → Bool}
theorem TnI.hop (h : TnI σ T x k) (H : Hop I σ T τ T') (h0 : I 0 = false := by rfl) : TnI τ T' x k := by
  obtain ⟨xs, h1, h2⟩ := h
  exact ⟨xs, h1.hop H h0, h2⟩
theorem PcI.hop (p : PcI σ T lq most since least) (H : Hop I σ T τ T') (h0 : I 0 = false := by rfl) (h30 : I 30 = false := by rfl) : PcI τ T' lq most since least := by
  obtain ⟨x0, k0, x1, k1, x2, k2, x3, k3, came, h, q0, q1, q2, q3⟩ := p.ex
  exact ⟨⟨x0, k0, x1, k1, x2, k2, x3, k3, came, h.hop H h30, q0.hop H h0, q1.hop H h0, q2.hop H h0, q3.hop H h0⟩⟩
theorem TnI.hle (h : TnI σ T x k) (L : Hle σ τ) : TnI τ T x k := by
  obtain ⟨xs, h1, h2⟩ := h
  exact ⟨xs, h1.hle L, h2⟩
theorem PcI.hle (p : PcI σ T lq most since least) (L : Hle σ τ) : PcI τ T lq most since least := by
  obtain ⟨x0, k0, x1, k1, x2, k2, x3, k3, came, h, q0, q1, q2, q3⟩ := p.ex
  exact ⟨⟨x0, k0, x1, k1, x2, k2, x3, k3, came, h.hle L, q0.hle L, q1.hle L, q2.hle L, q3.hle L⟩⟩
end
end Go.Proofs.YtekehmgfedmflaaDoor.A

/- The engine: why it ends; which assumptions are decided; the plain law. -/
namespace Go.Proofs.YtekehmgfedmflaaDoor.A
open Go
/-- A trail as0 a number: ones for what is not decided. -/
def codeF (n : Nat) (ms : List Int) : Nat → Nat
  | 0 => 0
  | k + 1 => codeF n ms k + (if (k : Int) ∈ ms then 0 else 2 ^ (n - 1 - k))
/-- One more waits. -/
def codeW (n : Nat) (ms : List Int) (k : Nat) : Nat := codeF n ms k + (if k < n then 2 ^ (n - 1 - k) else 0)
section
variable {n k p : Nat} {ms ms' : List Int}
theorem codeF_le (h : p ≤ k) : codeF n ms p ≤ codeF n ms k := by
  obtain ⟨d, rfl⟩ : ∃ d, k = p + d := ⟨k - p, by omega⟩
  clear h
  induction d with
  | zero => exact Nat.le_refl _
  | succ d ih => rw [show p + (d + 1) = p + d + 1 by omega]; simp only [codeF]; omega
theorem codeW_le (h : p ≤ k) (hk : k ≤ n) (hms : ∀ j : Nat, p ≤ j → (j : Int) ∉ ms) : codeW n ms p ≤ codeW n ms k ∧ (p < k → codeW n ms p ≤ codeF n ms k) := by
  have key : p < k → codeW n ms p ≤ codeF n ms k := fun hlt => by
    have h1 := codeF_le (n := n) (ms := ms) (p := p + 1) (k := k) (by omega)
    have h2 : codeF n ms (p + 1) = codeF n ms p + 2 ^ (n - 1 - p) := by simp only [codeF]; rw [if_neg (hms p (Nat.le_refl _))]
    unfold codeW
    rw [if_pos (by omega)]
    omega
  refine ⟨?_, key⟩
  by_cases e : p = k
  · subst e; exact Nat.le_refl _
  · have := key (by omega)
    unfold codeW at this ⊢
    omega
/-- A trail's place among all trails, ahead of which those lie that are less. -/
def rkF (n : Nat) (ms : List Int) : Nat → Nat
  | 0 => 0
  | k + 1 => rkF n ms k + (if (k : Int) ∈ ms then 1 else 2 ^ (n - k))
/-- One more waits. -/
def rkW (n : Nat) (ms : List Int) (k : Nat) : Nat := rkF n ms k + (if k < n then 2 ^ (n - k) else 0)
theorem rkF_le (h : p ≤ k) : rkF n ms p ≤ rkF n ms k := by
  obtain ⟨d, rfl⟩ : ∃ d, k = p + d := ⟨k - p, by omega⟩
  clear h
  induction d with
  | zero => exact Nat.le_refl _
  | succ d ih => rw [show p + (d + 1) = p + d + 1 by omega]; simp only [rkF]; omega
theorem rkW_le (h : p < k) (hk : k ≤ n) (hms : ∀ j : Nat, p ≤ j → (j : Int) ∉ ms) : rkW n ms p ≤ rkF n ms k := by
  have h1 := rkF_le (n := n) (ms := ms) (p := p + 1) (k := k) (by omega)
  have h2 : rkF n ms (p + 1) = rkF n ms p + 2 ^ (n - p) := by simp only [rkF]; rw [if_neg (hms p (Nat.le_refl _))]
  unfold rkW
  rw [if_pos (by omega)]
  omega
end
/-! ### Assumptions -/
/-- The first decisions are assumptions; if there are more, all assumptions are true. -/
def AsI (s : PS) (A : List Int) : Prop := ∃ k, k ≤ s.marks.length ∧ (∀ (i : Nat) (a : Nat) d, i < k → s.marks[i]? = some (a : Int) → s.trail[a]? = some d → d ∈ A) ∧ (k < s.marks.length → ∀ a ∈ A, a ∈ s.trail ∧ s.lv a ≤ k)
section
variable {n k a : Nat} {s s' : PS} {A : List Int} {l : Int}
theorem AsI.nil (h : s.marks = []) : AsI s A := ⟨0, by omega, fun i a d hi => by omega, fun h2 => by rw [h] at h2; simp at h2⟩
theorem AsI.ext (h : AsI s A) (ht : TrI n s) (E : PEx s s') : AsI s' A := by
  obtain ⟨k, h1, h2, h3⟩ := h
  refine ⟨k, by rw [E.mks]; exact h1, fun i a d hi hm hd => ?_, fun hk x hx => ?_⟩
  · rw [E.mks] at hm
    obtain ⟨a', e, ⟨w, g1, _⟩, _⟩ := ht.mks i _ hm
    have e : a = a' := by omega
    subst e
    exact h2 i a d hi hm (E.got (get_len g1) hd)
  · rw [E.mks] at hk
    obtain ⟨g1, g2⟩ := h3 hk x hx
    exact ⟨E.mem g1, by rw [E.lv x g1]; exact g2⟩
end
end Go.Proofs.YtekehmgfedmflaaDoor.A

/- DratPlaces. -/
namespace Go.Proofs.YtekehmgfedmflaaDoor.A
open Go
/-- A base that grew along the chain. -/
structure PD (n : Nat) (D : List (List Int)) : Prop where
  ch : ∀ v : Nat, 1 ≤ v → v < n → normL [-(v : Int), (v : Int) + 1] ∈ D
  all : ∀ d ∈ D, (∃ v : Nat, 1 ≤ v ∧ v < n ∧ d = normL [-(v : Int), (v : Int) + 1]) ∨ d = normL [-(n : Int) - 1, (n : Int) + 2] ∨ d = normL [-(n : Int) - 1, -(n : Int) - 2] ∨ ∃ v : Int, 2 ≤ v ∧ v ≤ n ∧ d = normL [-1, v]
section
variable {n : Nat} (hn : 2 ≤ n) (hn2 : n ≤ 1000)
include hn hn2
omit hn hn2 in
/-- A model in which n + 1 and n + 2 are not. -/
theorem PD.mods {D : List (List Int)} (h : PD n D) : A.mods (fun v => decide (v ≤ n)) D := fun d hd => by
  have pos : ∀ v : Nat, 1 ≤ v → v ≤ n → holds (fun v => decide (v ≤ n)) (v : Int) = true := fun v h1 h2 => by
    have h3 : (0 : Int) < v := by omega
    simp [holds, h2, h3]
    omega
  have neg : ∀ v : Nat, n < v → holds (fun v => decide (v ≤ n)) (-(v : Int)) = true := fun v h1 => by
    have h3 : ¬ (0 : Int) < -(v : Int) := by omega
    have h4 : ¬ v ≤ n := by omega
    simp [holds, h4]
  have e1 : -(n : Int) - 1 = -((n + 1 : Nat) : Int) := by omega
  rcases h.all d hd with ⟨v, h1, h2, rfl⟩ | rfl | rfl | ⟨v, h1, h2, rfl⟩
  · exact tru_norm.2 ⟨(v : Int) + 1, by simp, by have := pos (v + 1) (by omega) (by omega); simpa using this⟩
  · exact tru_norm.2 ⟨-(n : Int) - 1, by simp, by rw [e1]; exact neg (n + 1) (by omega)⟩
  · exact tru_norm.2 ⟨-(n : Int) - 1, by simp, by rw [e1]; exact neg (n + 1) (by omega)⟩
  · refine tru_norm.2 ⟨v, by simp, ?_⟩
    have := pos v.toNat (by omega) (by omega)
    have e : (v.toNat : Int) = v := by omega
    rwa [e] at this
omit hn hn2 in
theorem PD.nz {D : List (List Int)} (h : PD n D) : A.nz D := fun d hd x hx => by
  rcases h.all d hd with ⟨v, h1, h2, rfl⟩ | rfl | rfl | ⟨v, h1, h2, rfl⟩ <;> (rw [normL_mem] at hx; simp at hx; omega)
end
/-! ### Steps, by their values -/
def AllB (σ : Heap) (ss : List (Bool × List Int)) (ws : List (Bool × AVal)) : Prop := ws.length = ss.length ∧ ∀ (i : Nat) (s : Bool × List Int), ss[i]? = some s → ∃ w, ws[i]? = some (s.1, w) ∧ SlV .int σ s.2 w
section
variable {σ τ : Heap} {ss tt : List (Bool × List Int)} {ws us : List (Bool × AVal)} {s : Bool × List Int} {w : AVal}
theorem AllB.mono (h : AllB σ ss ws) (L : Hle σ τ) : AllB τ ss ws := ⟨h.1, fun i c hc => (h.2 i c hc).imp fun w hw => ⟨hw.1, hw.2.mono L⟩⟩
theorem AllB.app (h : AllB σ ss ws) (k : AllB σ tt us) : AllB σ (ss ++ tt) (ws ++ us) := ⟨by simp [h.1, k.1], fun i d hd => by
  by_cases hlt : i < ss.length
  · rw [List.getElem?_append_left hlt] at hd
    rw [List.getElem?_append_left (by rw [h.1]; exact hlt)]
    exact h.2 i d hd
  · rw [List.getElem?_append_right (by omega)] at hd
    rw [List.getElem?_append_right (by rw [h.1]; omega), h.1]
    exact k.2 _ d hd⟩
theorem AllB.one (hw : SlV .int σ s.2 w) : AllB σ [s] [(s.1, w)] := ⟨rfl, fun i d hd => by
  match i, hd with
  | 0, hd => cases hd; exact ⟨w, rfl, hw⟩
  | i + 1, hd => simp at hd⟩
theorem AllB.take (h : AllB σ ss ws) (k : Nat) : AllB σ (ss.take k) (ws.take k) := ⟨by simp [h.1], fun i d hd => by
  rw [List.getElem?_take] at hd ⊢
  split at hd
  · rename_i hik; rw [if_pos hik]; exact h.2 i d hd
  · cases hd⟩
theorem AllB.drop (h : AllB σ ss ws) (k : Nat) : AllB σ (ss.drop k) (ws.drop k) := ⟨by simp [h.1], fun i d hd => by
  rw [List.getElem?_drop] at hd ⊢
  exact h.2 _ d hd⟩
end
theorem AllB.hop {I : Nat → Bool} {σ τ : Heap} {T T' : Tg} {ss : List (Bool × List Int)} {ws : List (Bool × AVal)} {t : Nat} (h : AllB (σ.at T t) ss ws) (H : Hop I σ T τ T') (hI : I t = false := by rfl) : AllB (τ.at T' t) ss ws := h.mono (H.le hI)
theorem AllB.hle {σ τ : Heap} {T : Tg} {ss : List (Bool × List Int)} {ws : List (Bool × AVal)} {t : Nat} (h : AllB (σ.at T t) ss ws) (L : Hle σ τ) : AllB (τ.at T t) ss ws := h.mono (L.ats T t)
end Go.Proofs.YtekehmgfedmflaaDoor.A

/- The engine: what holds of clauses, what was learnt, and the log; the plain law. -/
namespace Go.Proofs.YtekehmgfedmflaaDoor.A
open Go
theorem adj_tail {a : Int} {t : List Int} (h : adj (a :: t) = true) : adj t = true := by
  cases t with
  | nil => rfl
  | cons b t => simp [adj] at h; exact h.2
theorem adj_nodup : ∀ {xs : List Int}, xs.Pairwise ltL → adj xs = true → (xs.map Int.natAbs).Pairwise (· < ·)
  | [], _, _ => by simp
  | [a], _, _ => by simp
  | a :: b :: t, hp, h => by
    have ih := adj_nodup (xs := b :: t) (List.pairwise_cons.1 hp).2 (adj_tail h)
    simp only [adj, Bool.and_eq_true, decide_eq_true_eq] at h
    have hab := (List.pairwise_cons.1 hp).1 b (by simp)
    have hlt : a.natAbs < b.natAbs := by unfold ltL at hab; omega
    rw [List.map_cons]
    refine List.pairwise_cons.2 ⟨fun x hx => ?_, ih⟩
    rw [List.map_cons] at ih hx
    rcases List.mem_cons.1 hx with e | hx
    · rw [e]; exact hlt
    · have := (List.pairwise_cons.1 ih).1 x hx
      omega
theorem saysN_nodup {c : List Int} (h : saysN c = true) : ((normL c).map Int.natAbs).Nodup := (adj_nodup (normL_strict c) h).imp fun h => by omega
/-! ### The log -/
/-- Steps, one after the other. -/
inductive RunS (D0 : List (List Int)) : List (Bool × List Int) → List (List Int) → Prop where
  | nil : RunS D0 [] D0
  | add {lg : List (Bool × List Int)} {D : List (List Int)} {c : List Int} : RunS D0 lg D → Conf D (negs c) → RunS D0 (lg ++ [(false, c)]) (D ++ [normL c])
  | del {lg : List (Bool × List Int)} {D : List (List Int)} {c : List Int} : RunS D0 lg D → normL c ∈ D → RunS D0 (lg ++ [(true, c)]) (D.erase (normL c))
def LgI (C : List (List Int)) (s : PS) (lg : List (Bool × List Int)) : Prop := ∃ D X, RunS (C.map normL) lg D ∧ D.Perm (s.db.map normL ++ X)
/-- What holds of the engine. -/
structure EnL (gl : Bool) (n : Nat) (C : List (List Int)) (s : PS) (hs : List Int) (ln : List (Int × Int)) (lg : List (Bool × List Int)) (since least : Int) (w : Nat) : Prop where
  si : StI n s
  hp : ∀ v : Nat, 1 ≤ v → v ≤ n → val s.vs v = 0 → (v : Int) ∈ hs
  lnI : ∀ e ∈ ln, ∃ (id : Nat) (c : List Int) (f : Bool), e.1 = id ∧ s.cls[id]? = some (c, true, f)
  lnN : (ln.map (·.1)).Nodup
  orI : ∀ c ∈ C, saysN c = true → ∃ (id : Nat) (d : List Int) (f : Bool), s.cls[id]? = some (d, true, f) ∧ (∀ x, x ∈ d ↔ x ∈ c) ∧ ∀ e ∈ ln, e.1 ≠ id
  snd : ∀ m, mods m C → mods m s.db
  cl : ∀ c ∈ C, ∀ x ∈ c, isL x n = true
  lgI : gl = true → LgI C s lg
  z1 : s.cls.length ≤ w
  z2 : s.ent + 2 * s.loose.length ≤ 10 * w
  z3 : ln.length ≤ w
  z4 : lg.length + ln.length ≤ 2 * w
  z5 : 0 ≤ since ∧ since ≤ w
  z6 : 0 ≤ least ∧ least ≤ 16 + 8 * w
section
variable {gl : Bool} {n id k a : Nat} {C : List (List Int)} {s s' : PS} {hs hs' : List Int} {ln : List (Int × Int)} {lg : List (Bool × List Int)} {since least since' least' : Int} {w : Nat} {c d : List Int} {b f : Bool}
theorem ClI.nz (h : ClI n s) : nz s.db := fun c hc l hl => by
  obtain ⟨id, f, h1⟩ := db_mem.1 hc
  exact (isL_ne ((h id c f h1).1 l hl)).1
theorem EnL.heap (E : EnL gl n C s hs ln lg since least w) (h : ∀ v : Nat, 1 ≤ v → v ≤ n → val s.vs v = 0 → (v : Int) ∈ hs') : EnL gl n C s hs' ln lg since least w := ⟨E.si, h, E.lnI, E.lnN, E.orI, E.snd, E.cl, E.lgI, E.z1, E.z2, E.z3, E.z4, E.z5, E.z6⟩
theorem EnL.pace (E : EnL gl n C s hs ln lg since least w) (h5 : 0 ≤ since' ∧ since' ≤ w) (h6 : 0 ≤ least' ∧ least' ≤ 16 + 8 * w) : EnL gl n C s hs ln lg since' least' w := ⟨E.si, E.hp, E.lnI, E.lnN, E.orI, E.snd, E.cl, E.lgI, E.z1, E.z2, E.z3, E.z4, h5, h6⟩
theorem db_add (s : PS) (l : List Int) : (s.addC l).db = s.db ++ [l] := by
  unfold PS.db
  show ((s.cls ++ [(l, true, true)]).filter _).map _ = _
  rw [List.filter_append, List.map_append]
  rfl
theorem addC_get {j : Nat} {e : List Int × Bool × Bool} (h : s.cls[j]? = some e) : (s.addC c).cls[j]? = some e := by
  show (s.cls ++ [(c, true, true)])[j]? = _
  rw [List.getElem?_append_left (get_len h)]; exact h
theorem addC_last : (s.addC c).cls[s.cls.length]? = some (c, true, true) := by
  show (s.cls ++ [(c, true, true)])[s.cls.length]? = _
  simp
theorem db_drop (hc : s.cls[id]? = some (c, true, f)) : s.db.Perm (c :: (s.dropC id f).db) := by
  have key : ∀ (xs : List (List Int × Bool × Bool)) (i : Nat), xs[i]? = some (c, true, f) → ((xs.filter fun x => x.2.1).map (·.1)).Perm (c :: (((xs.set i ([], false, f)).filter fun x => x.2.1).map (·.1))) := by
    intro xs
    induction xs with
    | nil => intro i h; simp at h
    | cons x t ih =>
      intro i h
      cases i with
      | zero =>
        simp at h; subst h
        simp
      | succ i =>
        have := ih i (by simpa using h)
        rw [List.set_cons_succ, List.filter_cons, List.filter_cons]
        split
        · rw [List.map_cons, List.map_cons]
          exact (this.cons _).trans (List.Perm.swap _ _ _)
        · exact this
  exact key s.cls id hc
/-- A clause that was learnt is dropped. -/
theorem EnL.drop {ln1 ln2 : List (Int × Int)} {score : Int} (E : EnL gl n C s hs (ln1 ++ ((id : Int), score) :: ln2) lg since least w) (hc : s.cls[id]? = some (c, true, f)) (hr : ∀ x ∈ s.trail, x ∈ c → s.re x ≠ id) : EnL gl n C (s.dropC id f) hs (ln1 ++ ln2) (lg ++ [(true, c)]) since least w := by
  have hS := E.si.dropC hc hr
  have hoth : ∀ j, j ≠ id → (s.dropC id f).cls[j]? = s.cls[j]? := fun j hj => by show (s.cls.set id _)[j]? = _; rw [List.getElem?_set, if_neg fun e => hj e.symm]
  have hN := E.lnN
  rw [List.map_append, List.map_cons, List.nodup_append] at hN
  obtain ⟨g1, g2, g3⟩ := hN
  obtain ⟨g4, g5⟩ := List.nodup_cons.1 g2
  have hne : ∀ e ∈ ln1 ++ ln2, e.1 ≠ (id : Int) := fun e he q => by
    rcases List.mem_append.1 he with w | w
    · exact g3 e.1 (List.mem_map.2 ⟨e, w, rfl⟩) (id : Int) (by simp) q
    · exact g4 (List.mem_map.2 ⟨e, w, q⟩)
  have hsub : ∀ e, e ∈ ln1 ++ ln2 → e ∈ ln1 ++ ((id : Int), score) :: ln2 := fun e he => by
    rcases List.mem_append.1 he with w | w
    · exact List.mem_append.2 (.inl w)
    · exact List.mem_append.2 (.inr (List.mem_cons_of_mem _ w))
  have hdb := db_drop hc
  refine ⟨hS, E.hp, fun e he => ?_, ?_, fun d hdC hds => ?_, fun m hm d hd => ?_, E.cl, fun hg => ?_, by show (s.cls.set id _).length ≤ w; rw [List.length_set]; exact E.z1, E.z2, ?_, by have := E.z4; simp at this ⊢; omega, E.z5, E.z6⟩
  · obtain ⟨j, d, g, h1, h2⟩ := E.lnI e (hsub e he)
    refine ⟨j, d, g, h1, ?_⟩
    rw [hoth j fun q => hne e he (by rw [h1, q])]; exact h2
  · rw [List.map_append]
    exact List.nodup_append.2 ⟨g1, g5, fun x hx y hy => g3 x hx y (by simp [hy])⟩
  · obtain ⟨j, d', g, h1, h2, h3⟩ := E.orI d hdC hds
    refine ⟨j, d', g, ?_, h2, fun e he => h3 e (hsub e he)⟩
    rw [hoth j fun q => h3 ((id : Int), score) (by simp) (by rw [q])]; exact h1
  · exact E.snd m hm d (hdb.mem_iff.2 (List.mem_cons_of_mem _ hd))
  · obtain ⟨D, X, h1, h2⟩ := E.lgI hg
    have hperm : D.Perm (normL c :: ((s.dropC id f).db.map normL ++ X)) := h2.trans (by
      have := (hdb.map normL).append_right X
      rw [List.map_cons, List.cons_append] at this
      exact this)
    have hmem : normL c ∈ D := hperm.mem_iff.2 (by simp)
    refine ⟨_, X, h1.del hmem, ?_⟩
    have h3 := hperm.erase (normL c)
    rwa [List.erase_cons_head] at h3
  · have := E.z3
    simp at this ⊢; omega
/-- A clause comes in. -/
theorem EnL.add (E : EnL gl n C s hs ln lg since least w) (hc : ∀ x ∈ c, isL x n = true) (hg : gl = true → lg = []) :
    EnL gl n (C ++ [c]) (if saysN c = true then s.addC (normL c) else s) hs ln lg since least (w + 1) := by
  have hlgn : gl = true → ∀ D X, RunS (C.map normL) lg D → D.Perm (s.db.map normL ++ X) → RunS ((C ++ [c]).map normL) lg (D ++ [normL c]) := fun hgl D X h1 _ => by
    have := hg hgl
    subst this
    have e : D = C.map normL := by
      generalize hlg : ([] : List (Bool × List Int)) = lg0 at h1
      cases h1 with
      | nil => rfl
      | add _ _ => simp at hlg
      | del _ _ => simp at hlg
    subst e
    rw [List.map_append, List.map_singleton]
    exact .nil
  have hcl : ∀ d ∈ C ++ [c], ∀ x ∈ d, isL x n = true := fun d hd => by
    rcases List.mem_append.1 hd with q | q
    · exact E.cl d q
    · rw [List.mem_singleton.1 q]; exact hc
  by_cases hsy : saysN c = true
  · rw [if_pos hsy]
    obtain ⟨hS, hent⟩ := E.si.addC (l' := normL c) (fun x hx => hc x (normL_mem.1 hx)) (saysN_nodup hsy)
    refine ⟨hS, E.hp, fun e he => ?_, E.lnN, fun d hdC hds => ?_, fun m hm => ?_, hcl, fun hgl => ?_, ?_, ?_, by have := E.z3; omega, by have := E.z4; omega, by have := E.z5; omega, by have := E.z6; omega⟩
    · obtain ⟨id, d, f, h1, h2⟩ := E.lnI e he
      exact ⟨id, d, f, h1, addC_get h2⟩
    · rcases List.mem_append.1 hdC with q | q
      · obtain ⟨id, d', f, h1, h2, h3⟩ := E.orI d q hds
        exact ⟨id, d', f, addC_get h1, h2, h3⟩
      · rw [List.mem_singleton.1 q]
        refine ⟨s.cls.length, _, true, addC_last, fun x => normL_mem, fun e he => ?_⟩
        obtain ⟨id, d', f, h1, h2⟩ := E.lnI e he
        have := get_len h2
        omega
    · rw [db_add]
      intro d hd
      rcases List.mem_append.1 hd with q | q
      · exact E.snd m (fun e he => hm e (by simp [he])) d q
      · rw [List.mem_singleton.1 q, tru_norm]
        exact hm c (by simp)
    · obtain ⟨D, X, h1, h2⟩ := E.lgI hgl
      refine ⟨_, X, hlgn hgl D X h1 h2, ?_⟩
      rw [db_add, List.map_append, List.map_singleton, normL_idem]
      refine (h2.append_right _).trans ?_
      rw [List.append_assoc, List.append_assoc]
      exact List.Perm.append_left _ List.perm_append_comm
    · show (s.cls ++ [_]).length ≤ _
      simp; have := E.z1; omega
    · have : (s.addC (normL c)).loose.length = s.loose.length + 1 := by simp [PS.addC]
      have := E.z2
      omega
  · rw [if_neg hsy]
    refine ⟨E.si, E.hp, E.lnI, E.lnN, fun d hdC hds => ?_, fun m hm => E.snd m fun e he => hm e (by simp [he]), hcl, fun hgl => ?_, by have := E.z1; omega, by have := E.z2; omega, by have := E.z3; omega, by have := E.z4; omega, by have := E.z5; omega, by have := E.z6; omega⟩
    · rcases List.mem_append.1 hdC with q | q
      · exact E.orI d q hds
      · rw [List.mem_singleton.1 q] at hds; exact absurd hds hsy
    · obtain ⟨D, X, h1, h2⟩ := E.lgI hgl
      refine ⟨_, X ++ [normL c], hlgn hgl D X h1 h2, ?_⟩
      rw [← List.append_assoc]
      exact h2.append_right _
end
end Go.Proofs.YtekehmgfedmflaaDoor.A

/- The engine in the heap: undone, scores. -/
namespace Go.Proofs.YtekehmgfedmflaaDoor.A
open Go
def eI : Nat → Bool := fun j => decide (1 ≤ j) && !(decide (36 ≤ j) && decide (j ≤ 49))
def vLn : Vw (Int × Int) := ⟨2, fun _ a us => us = [.int .i64 a.1, .int .i64 a.2], by decide, fun h => by rw [h]; rfl, fun _ h => h⟩
structure EnP where
  le : Nat
  lp : Nat
  lh : Nat
  lq : Nat
/-- The engine. -/
structure EnH (σ : Heap) (T : Tg) (e : EnP) (n : Nat) (s : PS) (hs : List Int) (ln : List (Int × Int)) (lg : List (Bool × List Int)) (since least : Int) (h : PH) (xs xl xg : AVal) (conf bump most : Int) (sv : List Int) (ws : List (Bool × AVal)) : Prop where
  obj : Loc (σ.at T 31) e.le [.ptr e.lp 0, .ptr e.lh 0, .ptr e.lq 0, xs, xl, xg, .int .i64 conf, .int .i64 bump]
  prop : PropH σ T e.lp h s
  heap : HpI σ T e.lh n hs
  pace : PcI σ T e.lq most since least
  most : most ≤ 0
  sav : Own .int (σ.at T 32) sv xs
  svl : sv.length = n + 1
  lrn : Own vLn (σ.at T 33) ln xl
  log : Own vBR (σ.at T 34) ws xg
  all : AllB (σ.at T 0) lg ws
/-- The engine, whatever stands in it. -/
def EnX (σ : Heap) (T : Tg) (e : EnP) (n : Nat) (s : PS) (hs : List Int) (ln : List (Int × Int)) (lg : List (Bool × List Int)) (since least : Int) : Prop := ∃ h xs xl xg conf bump most sv ws, EnH σ T e n s hs ln lg since least h xs xl xg conf bump most sv ws
section
variable {σ τ : Heap} {T T' : Tg} {I : Nat → Bool}
theorem pI_e {j : Nat} (h : pI j = true) : eI j = true := by
  simp only [pI, eI, Bool.or_eq_true, Bool.and_eq_true, decide_eq_true_eq, Bool.not_eq_true', Bool.and_eq_false_iff, decide_eq_false_iff_not] at h ⊢
  omega
theorem Hop.pe (H : Hop pI σ T τ T') : Hop eI σ T τ T' := H.sub fun i hi => pI_e hi
theorem Hop.he (H : Hop hI σ T τ T') : Hop eI σ T τ T' := H.sub fun i hi => by
  simp only [hI, eI, Bool.and_eq_true, decide_eq_true_eq, Bool.not_eq_true', Bool.and_eq_false_iff, decide_eq_false_iff_not] at hi ⊢
  omega
theorem Hop.oe {t : Nat} (H : Hop (only t) σ T τ T') (ht : eI t = true := by rfl) : Hop eI σ T τ T' := H.sub fun i hi => by
  have : i = t := by simpa using hi
  rw [this]; exact ht
theorem pI_hI {j : Nat} (h : pI j = true) : hI j = false := by
  simp only [pI, hI, Bool.or_eq_true, Bool.and_eq_true, decide_eq_true_eq, Bool.and_eq_false_iff, decide_eq_false_iff_not] at h ⊢
  omega
theorem hI_pI {j : Nat} (h : hI j = true) : pI j = false := by
  simp only [pI, hI, Bool.or_eq_false_iff, Bool.and_eq_true, decide_eq_true_eq, Bool.and_eq_false_iff, decide_eq_false_iff_not] at h ⊢
  omega
theorem PropH.hopH {lp : Nat} {h : PH} {s : PS} (p : PropH σ T lp h s) (H : Hop hI σ T τ T') : PropH τ T' lp h s := p.hop H fun j hj => pI_hI hj
theorem PropH.hopO {lp : Nat} {h : PH} {s : PS} (p : PropH σ T lp h s) {t : Nat} (H : Hop (only t) σ T τ T') (ht : pI t = false := by rfl) : PropH τ T' lp h s := p.hop H fun j hj => by
  simp only [only, beq_eq_false_iff_ne]
  intro e; subst e; rw [ht] at hj; cases hj
theorem HpI.hopP {lh N : Nat} {hs : List Int} (p : HpI σ T lh N hs) (H : Hop pI σ T τ T') : HpI τ T' lh N hs := p.hop H fun j hj => hI_pI hj
variable {e : EnP} {n k : Nat} {s : PS} {hs : List Int} {ln : List (Int × Int)} {lg : List (Bool × List Int)} {since least : Int} {h : PH} {xs xl xg : AVal} {conf bump most : Int} {sv : List Int} {ws : List (Bool × AVal)} {gl : Bool} {C : List (List Int)} {w : Nat}
theorem EnH.hopE {t : Nat} (E : EnH σ T e n s hs ln lg since least h xs xl xg conf bump most sv ws) (H : Hop (only t) σ T τ T') (ht : (decide (15 ≤ t) && decide (t ≤ 29)) || (decide (35 ≤ t) && decide (t ≤ 49)) = true := by rfl) : EnH τ T' e n s hs ln lg since least h xs xl xg conf bump most sv ws := by
  have hne : ∀ u, u ≠ t → (only t) u = false := fun u hu => by simpa using hu
  simp only [Bool.or_eq_true, Bool.and_eq_true, decide_eq_true_eq] at ht
  exact ⟨E.obj.hop H (hne _ (by omega)), E.prop.hopO H (by simp only [pI, Bool.or_eq_false_iff, Bool.and_eq_false_iff, decide_eq_false_iff_not]; omega), E.heap.hopB H (by simp only [hI, Bool.and_eq_false_iff, decide_eq_false_iff_not]; omega), E.pace.hop H (hne _ (by omega)) (hne _ (by omega)), E.most, E.sav.hop H (hne _ (by omega)), E.svl, E.lrn.hop H (hne _ (by omega)), E.log.hop H (hne _ (by omega)), E.all.hop H (hne _ (by omega))⟩
theorem EnH.hle (E : EnH σ T e n s hs ln lg since least h xs xl xg conf bump most sv ws) (L : Hle σ τ) : EnH τ T e n s hs ln lg since least h xs xl xg conf bump most sv ws :=
  ⟨E.obj.hle L, E.prop.hle L, E.heap.hle L, E.pace.hle L, E.most, E.sav.hle L, E.svl, E.lrn.hle L, E.log.hle L, E.all.hle L⟩
end
end Go.Proofs.YtekehmgfedmflaaDoor.A

/- The engine in the heap: scores, restarts. -/
namespace Go.Proofs.YtekehmgfedmflaaDoor.A
open Go
section
variable {σ τ : Heap} {T T' : Tg} {e : EnP} {n k : Nat} {s : PS} {hs : List Int} {ln : List (Int × Int)} {lg : List (Bool × List Int)} {since least : Int} {h : PH} {xs xl xg x : AVal} {conf bump most : Int} {sv o : List Int} {ws : List (Bool × AVal)} {gl : Bool} {C : List (List Int)} {w : Nat}
theorem AllB.push {ss : List (Bool × List Int)} {ws : List (Bool × AVal)} {b : Bool} {c : List Int} (h : AllB (σ.at T 0) ss ws) (hx : SlV .int (σ.at T 0) c x) : AllB (σ.at T 0) (ss ++ [(b, c)]) (ws ++ [(b, x)]) := h.app (AllB.one (s := (b, c)) hx)
/-- Drops behind a log; how many stay. -/
def LgX (n i : Nat) (lg : List (Bool × List Int)) (k : Nat) (lg' : List (Bool × List Int)) : Prop := ∃ ds : List (Bool × List Int), lg' = lg ++ ds ∧ (∀ d ∈ ds, d.1 = true ∧ d.2.length ≤ n ∧ ∀ x ∈ d.2, isL x n = true) ∧ k + ds.length ≤ i
theorem LgX.zero {lg : List (Bool × List Int)} : LgX n 0 lg 0 lg := ⟨[], by simp, by simp, by simp⟩
theorem LgX.stay {i : Nat} {lg' : List (Bool × List Int)} (h : LgX n i lg k lg') : LgX n (i + 1) lg (k + 1) lg' := by
  obtain ⟨ds, h1, h2, h3⟩ := h
  exact ⟨ds, h1, h2, by omega⟩
theorem LgX.drop {i : Nat} {lg' : List (Bool × List Int)} {c : List Int} (h : LgX n i lg k lg') (hc : c.length ≤ n ∧ ∀ x ∈ c, isL x n = true) : LgX n (i + 1) lg k (lg' ++ [(true, c)]) := by
  obtain ⟨ds, h1, h2, h3⟩ := h
  refine ⟨ds ++ [(true, c)], by rw [h1, List.append_assoc], fun d hd => ?_, by simp; omega⟩
  rcases List.mem_append.1 hd with q | q
  · exact h2 d q
  · rw [List.mem_singleton.1 q]; exact ⟨rfl, hc⟩
end
end Go.Proofs.YtekehmgfedmflaaDoor.A

/- The engine in the heap: what it tells, assumptions, choices, models. -/
namespace Go.Proofs.YtekehmgfedmflaaDoor.A
open Go
theorem W.mk0T {α R : Type} {Q : R → Prop} {v : Vw α} (t : Nat) {σ : Heap} {T : Tg} (hn : Tn σ T) {n bytes sz : Nat} {z : List AVal} (hsz : sz = v.sz) (hb : n * bytes ≤ 70368744177664) (hb' : n ≤ 70368744177664) {K : AVal → Heap → Option R}
    (c : ∀ x τ T', Hop (only t) σ T τ T' → Own v (τ.at T' t) [] x → W (K x τ) Q) : W (mkS σ sz bytes z 0 (n : Int) K) Q := by
  subst hsz
  have e : mkS σ v.sz bytes z 0 (n : Int) K = K (.sl σ.next 0 0 none) (σ.new (.cells .rw v.sz (rep n z))) := by
    simp only [mkS, newK]
    rw [if_pos ⟨by omega, by omega, by omega, by omega⟩, Int.toNat_natCast]
    rfl
  refine W.to e (c _ _ (T.upd σ.next t) (hop_new hn) (.inr ⟨σ.next, 0, none, _, rfl, Nat.lt_succ_self _, at_of upd_self (by rw [hnew_get, if_pos rfl]), (fun k e => by cases e), by simp, fun i b hi => by simp at hi⟩))
section
variable {σ τ : Heap} {T T' : Tg} {e : EnP} {n k id : Nat} {s : PS} {hs : List Int} {ln : List (Int × Int)} {lg : List (Bool × List Int)} {since least : Int} {h : PH} {xs xl xg x : AVal} {conf bump most : Int} {sv o c A core : List Int} {ws : List (Bool × AVal)} {gl f : Bool} {C : List (List Int)} {w : Nat}
end
end Go.Proofs.YtekehmgfedmflaaDoor.A

/- The engine: a question, the plain law. -/
namespace Go.Proofs.YtekehmgfedmflaaDoor.A
open Go
section
variable {n k a b id : Nat} {s s' : PS} {A C : List (List Int)} {l x : Int} {M : List Bool} {tt uu : Nat} {c d : List Int} {f : Bool}
theorem marks_lt (ht : TrI n s) {j : Nat} (hj : s.trail.length ≤ j) : (j : Int) ∉ s.marks := fun hm => by
  obtain ⟨i, hi⟩ := mem_ix hm
  obtain ⟨a, e, ⟨w, g1, _⟩, _⟩ := ht.mks i _ hi
  have := get_len g1
  omega
/-- How far it is. -/
def CdI (n : Nat) (s : PS) (tt uu : Nat) : Prop := (tt ≤ codeF n s.marks s.trail.length ∧ uu ≤ rkF n s.marks s.trail.length) ∨ ((tt ≤ codeW n s.marks s.trail.length ∧ uu ≤ rkW n s.marks s.trail.length) ∧ ∃ id, s.loose = [((id : Nat) : Int)] ∧ Ready s id)
theorem CdI.ext (h : CdI n s tt uu) (E : PEx s s') (ht : TrI n s) (ht' : TrI n s') : tt ≤ codeW n s'.marks s'.trail.length ∧ uu ≤ rkW n s'.marks s'.trail.length := by
  have hl := E.lenT
  have hn := ht'.lenT
  rw [E.mks]
  have h2 := codeW_le (n := n) hl hn fun j hj => marks_lt ht hj
  rcases h with ⟨q, q2⟩ | ⟨⟨q, q2⟩, _⟩
  · have := codeF_le (n := n) (ms := s.marks) hl
    have := rkF_le (n := n) (ms := s.marks) hl
    unfold codeW rkW; omega
  · refine ⟨by omega, ?_⟩
    by_cases e : s.trail.length = s'.trail.length
    · rw [← e]; exact q2
    · have := rkW_le (n := n) (show s.trail.length < s'.trail.length by omega) hn fun j hj => marks_lt ht hj
      unfold rkW at q2 this ⊢
      omega
/-- A clause that is false above the least level has two literals that were not looked at. -/
theorem PrI.two (P : PrI n s) (hc : s.cls[id]? = some (c, true, f)) (hf : ∀ x ∈ c, val s.vs x = 2) : ∀ m ∈ s.marks, m + 2 ≤ (s.trail.length : Int) := by
  obtain ⟨h, e1, e2, e3, e4⟩ := P.hd
  have hg := P.li.flag P.lo hc
  subst hg
  have J := e4 id c hc
  have hnd := (P.ci id c false hc).2
  intro m hm
  have h3 := e3 m hm
  rcases c with _ | ⟨a, _ | ⟨d, t⟩⟩
  · exact absurd rfl J.ne
  · have h1 := (P.ti.tr a).2 (J.one a rfl).1
    have := hf a (by simp)
    omega
  · have ha := hf a (by simp)
    have hd := hf d (by simp)
    obtain ⟨i, hi⟩ := mem_ix (P.ti.neg.1 ha)
    obtain ⟨j, hj⟩ := mem_ix (P.ti.neg.1 hd)
    have hi2 : h ≤ i := Decidable.byContradiction fun q => by
      have := (P.ti.tr d).2 (J.two 0 a d (by omega) rfl rfl ⟨i, by omega, hi⟩).1
      omega
    have hj2 : h ≤ j := Decidable.byContradiction fun q => by
      have := (P.ti.tr a).2 (J.two 1 d a (by omega) rfl rfl ⟨j, by omega, hj⟩).1
      omega
    have hne : i ≠ j := fun e => by
      subst e
      rw [hi] at hj
      have : a = d := by have := Option.some.inj hj; omega
      subst this
      simp at hnd
    have := get_len hi
    have := get_len hj
    omega
/-! ### What is told -/
def mOf (M : List Bool) (v : Nat) : Bool := M.getD v false
end
end Go.Proofs.YtekehmgfedmflaaDoor.A

/- The engine in the heap: a question. -/
namespace Go.Proofs.YtekehmgfedmflaaDoor.A
open Go
def eJ : Nat → Bool := fun j => eI j || j == 37
/-- How many lessons a log has. -/
def addsL (lg : List (Bool × List Int)) : Nat := (lg.filter fun st => !st.1).length
/-- How long a log may be, as0 a question goes on. -/
def LgB (n : Nat) (ln : List (Int × Int)) (lg : List (Bool × List Int)) (since least : Int) : Prop :=
  (∀ st ∈ lg, st.2.length ≤ n ∧ ∀ x ∈ st.2, isL x n = true) ∧ lg.length + ln.length ≤ 2 * addsL lg ∧ 8 * (addsL lg : Int) ≤ (least - 16) * (2 ^ n / 2 : Nat) + 8 * since
/-- A log at a question's end. -/
def LgF (n : Nat) (lg : List (Bool × List Int)) : Prop := (∀ st ∈ lg, st.2.length ≤ n + 1 ∧ ∀ x ∈ st.2, isL x n = true) ∧ lg.length ≤ 2 * ((2 ^ n / 2) * (2 ^ n / 2 / 8 + 2)) + 1
theorem LgB.fin {n : Nat} {ln : List (Int × Int)} {lg : List (Bool × List Int)} {since least : Int} (h : LgB n ln lg since least) (hs : since ≤ (2 ^ n / 2 : Nat)) (hl : least ≤ (2 ^ n / 2 : Nat) + 16) {c : List Int} (hc : c.length ≤ n + 1 ∧ ∀ x ∈ c, isL x n = true) : LgF n (lg ++ [(false, c)]) ∧ LgF n lg := by
  obtain ⟨h1, h2, h3⟩ := h
  have key : lg.length ≤ 2 * ((2 ^ n / 2) * (2 ^ n / 2 / 8 + 2)) := by
    generalize (2 ^ n / 2 : Nat) = B at h3 hs hl ⊢
    have h4 : (least - 16) * (B : Int) ≤ (B : Int) * B := Int.mul_le_mul_of_nonneg_right (by omega) (by omega)
    have h6 : 8 * (addsL lg : Int) ≤ (B : Int) * B + 8 * B := by omega
    have h7 : B * B ≤ B * (8 * (B / 8) + 7) := Nat.mul_le_mul_left _ (by omega)
    have h8 : B * (8 * (B / 8) + 7) = 8 * (B * (B / 8)) + 7 * B := by rw [Nat.mul_add, Nat.mul_left_comm]; omega
    have h9 : B * (B / 8 + 2) = B * (B / 8) + 2 * B := by rw [Nat.mul_add]; omega
    rw [← Int.natCast_mul] at h6
    omega
  refine ⟨⟨fun st hst => ?_, by simp; omega⟩, fun st hst => ⟨Nat.le_trans (h1 st hst).1 (Nat.le_succ n), (h1 st hst).2⟩, by omega⟩
  rcases List.mem_append.1 hst with q | q
  · exact ⟨Nat.le_trans (h1 st q).1 (Nat.le_succ n), (h1 st q).2⟩
  · rw [List.mem_singleton.1 q]; exact hc
/-- What a question comes to. -/
def SoR (σ : Heap) (T : Tg) (n : Nat) (C : List (List Int)) (A : List Int) (lg : List (Bool × List Int)) (r : AVal × AVal) : Prop :=
  (∃ y M, r = (.agg [.bool true, y, .nils], .nili) ∧ SlV .bool (σ.at T 0) M y ∧ M.length = n + 1 ∧ mods (mOf M) C ∧ ∀ a ∈ A, holds (mOf M) a = true) ∨
  (∃ y core lg0, r = (.agg [.bool false, .nils, y], .nili) ∧ SlV .int (σ.at T 0) core y ∧ (∀ l ∈ core, l ∈ A) ∧ (∀ m, mods m C → ¬ ∀ l ∈ core, holds m l = true) ∧ core.length ≤ n + 1 ∧ lg = lg0 ++ [(false, negs core)])
section
variable {σ τ : Heap} {T T' : Tg} {e : EnP} {n k id : Nat} {s : PS} {hs : List Int} {ln : List (Int × Int)} {lg : List (Bool × List Int)} {since least : Int} {x : AVal} {A : List Int} {gl : Bool} {C : List (List Int)} {w : Nat}
theorem id' {p : Prop} (h : p) : p := h
theorem AsI.addC {l : List Int} (h : AsI s A) : AsI (s.addC l) A := h
end
end Go.Proofs.YtekehmgfedmflaaDoor.A

/- The engine in the heap: made, grown, given clauses. -/
namespace Go.Proofs.YtekehmgfedmflaaDoor.A
open Go
def eK : Nat → Bool := fun j => eJ j || j == 39
theorem Hop.ek {σ τ : Heap} {T T' : Tg} (H : Hop eI σ T τ T') : Hop eK σ T τ T' := H.sub fun i hi => by simp [eK, eJ, hi]
theorem Hop.ok {σ τ : Heap} {T T' : Tg} {t : Nat} (H : Hop (only t) σ T τ T') (ht : eK t = true := by rfl) : Hop eK σ T τ T' := H.sub fun i hi => by
  have : i = t := by simpa using hi
  rw [this]; exact ht
section
variable {σ τ : Heap} {T T' : Tg} {e : EnP} {n k id : Nat} {s : PS} {hs c : List Int} {ln : List (Int × Int)} {lg : List (Bool × List Int)} {since least : Int} {x : AVal} {A xs : List Int} {gl : Bool} {C : List (List Int)} {w : Nat}
theorem paceNew1_w (h : SlV .int (σ.at T 0) xs x) (hn : Tn σ T) (hb : xs.length ≤ 1000000) : W (S.pace_New_1 x σ) fun r => ∃ T' y, r.1 = .agg [y, .int .i64 0] ∧ Hop (only 39) σ T r.2 T' ∧ SlV .int (r.2.at T' 0) xs y := by
  unfold S.pace_New_1
  refine W.newT 39 hn fun l1 τ1 T1 hl1 H1 k1 hnτ1 => ?_
  replace h := h.hop H1
  replace hn := H1.tn
  refine W.bind ?_
  refine W.mono (cloneT h hn hb) fun r hr => ?_
  obtain ⟨y, τ2⟩ := r
  obtain ⟨L2, _, hy⟩ := hr
  dsimp only at L2 hy ⊢
  replace k1 := k1.hle L2
  replace hn := hn.mono L2
  have hyu := hy.up
  refine W.scalS hyu ?_
  refine W.stT k1 hn (Nat.le_of_ble_eq_true (by rfl)) fun τ3 H3 k1 hnτ3 => ?_
  replace hy := hy.hop H3
  repeat' (with_reducible (first | refine W.ret ?_ | refine W.ldGL (Loc.up (by assumption)) (Nat.le_of_ble_eq_true (by with_unfolding_all rfl)) ?_))
  exact ⟨T1, y, rfl, (H1.trans (Hop.of H1.tn L2)).trans H3, hy⟩
/-- A script. -/
def ScV (σ : Heap) (x : AVal) (s : (List Int × List Int × List Int × List Int) × Int × Int) : Prop := ∃ x0 x1 x2 x3, x = .agg [x0, x1, x2, x3, .int .i64 s.2.1, .int .i64 s.2.2] ∧ SlV .int σ s.1.1 x0 ∧ SlV .int σ s.1.2.1 x1 ∧ SlV .int σ s.1.2.2.1 x2 ∧ SlV .int σ s.1.2.2.2 x3
def ScS (s : (List Int × List Int × List Int × List Int) × Int × Int) : Prop := s.1.1.length ≤ 50 ∧ s.1.2.1.length ≤ 50 ∧ s.1.2.2.1.length ≤ 50 ∧ s.1.2.2.2.length ≤ 50
variable {sc : (List Int × List Int × List Int × List Int) × Int × Int}
theorem ScV.hop {I : Nat → Bool} (h : ScV (σ.at T 0) x sc) (H : Hop I σ T τ T') (h0 : I 0 = false := by rfl) : ScV (τ.at T' 0) x sc := by
  obtain ⟨x0, x1, x2, x3, e, h1, h2, h3, h4⟩ := h
  exact ⟨x0, x1, x2, x3, e, h1.hop H h0, h2.hop H h0, h3.hop H h0, h4.hop H h0⟩
theorem ScV.hle (h : ScV (σ.at T 0) x sc) (L : Hle σ τ) : ScV (τ.at T 0) x sc := by
  obtain ⟨x0, x1, x2, x3, e, h1, h2, h3, h4⟩ := h
  exact ⟨x0, x1, x2, x3, e, h1.hle L, h2.hle L, h3.hle L, h4.hle L⟩
theorem paceNew_w (h : ScV (σ.at T 0) x sc) (hn : Tn σ T) (hs : ScS sc) : W (S.pace_New x σ) fun r => ∃ T' lq, r.1 = .ptr lq 0 ∧ Hop eK σ T r.2 T' ∧ PcI r.2 T' lq sc.2.1 0 16 := by
  obtain ⟨x0, x1, x2, x3, rfl, h0, h1, h2, h3⟩ := h
  obtain ⟨b0, b1, b2, b3⟩ := hs
  unfold S.pace_New
  repeat' (with_reducible refine W.aggK (by with_unfolding_all rfl) ?_)
  refine W.new0 hn fun l2 τ1 _ L1 k1 hn1 => ?_
  replace h0 := h0.hle L1
  replace h1 := h1.hle L1
  replace h2 := h2.hle L1
  replace h3 := h3.hle L1
  have HH : Hop eK σ T τ1 T := Hop.of hn L1
  have hn := hn1
  repeat' (with_reducible (first | refine W.bind ?_ | refine W.asV ?_ | refine W.ldL (Loc.up (by assumption)) (by with_unfolding_all rfl) ?_))
  refine W.mono (paceNew1_w h0 hn (by omega)) fun r hr => ?_
  obtain ⟨r, τ2⟩ := r
  obtain ⟨T2, y0, er, H2, j0⟩ := hr
  dsimp only at er H2 j0 ⊢
  subst er
  replace HH := HH.trans H2.ok
  have k2 := k1.hop H2
  replace h1 := h1.hop H2
  replace h2 := h2.hop H2
  replace h3 := h3.hop H2
  replace hn := H2.tn
  repeat' (with_reducible (first | refine W.bind ?_ | refine W.asV ?_ | refine W.chk rfl ?_ | refine W.ldL (Loc.up (by assumption)) (by with_unfolding_all rfl) ?_))
  refine W.mono (paceNew1_w h1 hn (by omega)) fun r hr => ?_
  obtain ⟨r, τ3⟩ := r
  obtain ⟨T3, y1, er, H3, j1⟩ := hr
  dsimp only at er H3 j1 ⊢
  subst er
  replace HH := HH.trans H3.ok
  have k3 := k2.hop H3
  replace h2 := h2.hop H3
  replace h3 := h3.hop H3
  replace j0 := j0.hop H3
  replace hn := H3.tn
  repeat' (with_reducible (first | refine W.bind ?_ | refine W.asV ?_ | refine W.chk rfl ?_ | refine W.ldL (Loc.up (by assumption)) (by with_unfolding_all rfl) ?_))
  refine W.mono (paceNew1_w h2 hn (by omega)) fun r hr => ?_
  obtain ⟨r, τ4⟩ := r
  obtain ⟨T4, y2, er, H4, j2⟩ := hr
  dsimp only at er H4 j2 ⊢
  subst er
  replace HH := HH.trans H4.ok
  have k4 := k3.hop H4
  replace h3 := h3.hop H4
  replace j0 := j0.hop H4
  replace j1 := j1.hop H4
  replace hn := H4.tn
  repeat' (with_reducible (first | refine W.bind ?_ | refine W.asV ?_ | refine W.chk rfl ?_ | refine W.ldL (Loc.up (by assumption)) (by with_unfolding_all rfl) ?_))
  refine W.mono (paceNew1_w h3 hn (by omega)) fun r hr => ?_
  obtain ⟨r, τ5⟩ := r
  obtain ⟨T5, y3, er, H5, j3⟩ := hr
  dsimp only at er H5 j3 ⊢
  subst er
  replace HH := HH.trans H5.ok
  have k5 := k4.hop H5
  replace j0 := j0.hop H5
  replace j1 := j1.hop H5
  replace j2 := j2.hop H5
  replace hn := H5.tn
  repeat' (with_reducible (first | refine W.asI ?_ | refine W.chk rfl ?_ | refine W.aggK (by with_unfolding_all rfl) ?_ | refine W.putC (by with_unfolding_all rfl) ?_ | refine W.ldL (Loc.up (by assumption)) (by with_unfolding_all rfl) ?_))
  refine W.newT 30 hn fun l34 τ6 T6 hl34 H6 k30 hnτ6 => ?_
  replace HH := HH.trans H6.ok
  replace j0 := j0.hop H6
  replace j1 := j1.hop H6
  replace j2 := j2.hop H6
  replace j3 := j3.hop H6
  replace hn := H6.tn
  repeat' (with_reducible refine W.ret ?_)
  exact ⟨T6, l34, rfl, HH, ⟨y0, 0, y1, 0, y2, 0, y3, 0, 0, k30, ⟨_, j0, by omega, by omega, by omega⟩, ⟨_, j1, by omega, by omega, by omega⟩, ⟨_, j2, by omega, by omega, by omega⟩, ⟨_, j3, by omega, by omega, by omega⟩⟩⟩
/-- The engine, with so many saved. -/
def EnW (σ : Heap) (T : Tg) (e : EnP) (n : Nat) (s : PS) (hs : List Int) (ln : List (Int × Int)) (lg : List (Bool × List Int)) (since least : Int) (k : Nat) : Prop := ∃ h xs xl xg conf bump most sv ws, Loc (σ.at T 31) e.le [.ptr e.lp 0, .ptr e.lh 0, .ptr e.lq 0, xs, xl, xg, .int .i64 conf, .int .i64 bump] ∧ PropH σ T e.lp h s ∧ HpI σ T e.lh n hs ∧ PcI σ T e.lq most since least ∧ most ≤ 0 ∧ Own .int (σ.at T 32) sv xs ∧ sv.length = k ∧ Own vLn (σ.at T 33) ln xl ∧ Own vBR (σ.at T 34) ws xg ∧ AllB (σ.at T 0) lg ws
theorem EnX.toW (E : EnX σ T e n s hs ln lg since least) : EnW σ T e n s hs ln lg since least (n + 1) := by
  obtain ⟨h, xs, xl, xg, conf, bump, most, sv, ws, E⟩ := E
  exact ⟨h, xs, xl, xg, conf, bump, most, sv, ws, E.obj, E.prop, E.heap, E.pace, E.most, E.sav, E.svl, E.lrn, E.log, E.all⟩
/-- More variables. -/
theorem engGrow_w {vars : Nat} (E : EnW σ T e n s hs ln lg since least k) (hn : Tn σ T) (hL : PLen (n + 1) s) (hk : k ≤ n + 1) (hn4 : n ≤ 4000) (hv : vars ≤ 4000) :
    W (S.sat_Engine_Grow (.ptr e.le 0) (vars : Int) σ) fun r => ∃ T' hs', Hop eI σ T r.2 T' ∧ EnX r.2 T' e (n + (vars - n)) (s.grow (vars - n)) hs' ln lg since least ∧ ∀ x : Int, x ∈ hs' ↔ x ∈ hs ∨ ((n : Int) < x ∧ x ≤ vars) := by
  obtain ⟨h, xs, xl, xg, conf, bump, most, sv, ws, k1, kp, kh, kq, km, ks, ksl, kl, kg, ka⟩ := E
  unfold S.sat_Engine_Grow
  repeat' (with_reducible (first | refine W.bind ?_ | refine W.asV ?_ | refine W.fldp ?_ | refine W.nck ?_ | refine W.ldL (Loc.up (by assumption)) (by with_unfolding_all rfl) ?_))
  refine W.mono (propGrow_w (vars := vars) kp hn hL (by omega) hv (by omega)) fun r hr => ?_
  obtain ⟨r, τ1⟩ := r
  obtain ⟨T1, h1, H1, kp⟩ := hr
  dsimp only at H1 kp ⊢
  rw [show vars + 1 - (n + 1) = vars - n from by omega] at kp
  replace kh := kh.hopP H1
  replace kq := kq.hop H1
  replace ka := ka.hop H1
  have HH := H1.pe
  replace k1 := k1.hop H1
  replace ks := ks.hop H1
  replace kl := kl.hop H1
  replace kg := kg.hop H1
  replace hn := H1.tn
  repeat' (with_reducible (first | refine W.bind ?_ | refine W.asV ?_ | refine W.fldp ?_ | refine W.nck ?_ | refine W.ldL (Loc.up (by assumption)) (by with_unfolding_all rfl) ?_))
  refine W.mono (heapGrow_w (vars := vars) kh hn hn4 hv) fun r hr => ?_
  obtain ⟨r, τ2⟩ := r
  obtain ⟨T2, hs2, H2, kh, hm⟩ := hr
  dsimp only at H2 kh ⊢
  rw [show max n vars = n + (vars - n) from by omega] at kh
  replace kp := kp.hopH H2
  replace kq := kq.hop H2
  replace ka := ka.hop H2
  replace HH := HH.trans H2.he
  replace k1 := k1.hop H2
  replace ks := ks.hop H2
  replace kl := kl.hop H2
  replace kg := kg.hop H2
  replace hn := H2.tn
  repeat' (with_reducible refine W.bind ?_)
  have hvs : (s.grow (vars - n)).vs.length = n + (vars - n) + 1 := by
    simp only [PS.grow, List.length_append, List.length_replicate, hL.vs]; omega
  generalize hN : n + (vars - n) = N at kh hvs ⊢
  have hN4 : N ≤ 4000 := by omega
  generalize hS : s.grow (vars - n) = s1 at kp hvs ⊢
  refine W.mono (P := fun r => ∃ T', Hop eI σ T r.2 T' ∧ EnX r.2 T' e N s1 hs2 ln lg since least) ?_ fun r hr => ?_
  · refine W.loopI (m := N + 1 - sv.length) (fun m (_ : Unit) τ => ∃ (T' : Tg) (sv' : List Int) (xs' : AVal), Hop eI σ T τ T' ∧ Loc (τ.at T' 31) e.le [.ptr e.lp 0, .ptr e.lh 0, .ptr e.lq 0, xs', xl, xg, .int .i64 conf, .int .i64 bump] ∧ PropH τ T' e.lp h1 s1 ∧ HpI τ T' e.lh N hs2 ∧ PcI τ T' e.lq most since least ∧ Own .int (τ.at T' 32) sv' xs' ∧ sv'.length ≤ N + 1 ∧ m = N + 1 - sv'.length ∧ Own vLn (τ.at T' 33) ln xl ∧ Own vBR (τ.at T' 34) ws xg ∧ AllB (τ.at T' 0) lg ws) ⟨T2, sv, xs, HH, k1, kp, kh, kq, ks, by omega, rfl, kl, kg, ka⟩ fun m _ τ hI2 => ?_
    clear kp kh kq ks kl kg ka k1 HH
    obtain ⟨T3, sv3, xs3, HH, k1, kp, kh, kq, ks, hsv, rfl, kl, kg, ka⟩ := hI2
    unfold S.sat_Engine_Grow.b0
    have ksl := ks.slT
    repeat' (with_reducible (first | refine W.bind ?_ | refine W.asV ?_ | refine W.fldp ?_ | refine W.len (by assumption) ?_ | refine W.nck ?_ | refine W.ldL (Loc.up (by assumption)) (by with_unfolding_all rfl) ?_))
    refine W.to (propVars_eq kp hvs hN4) ?_
    repeat' (with_reducible refine W.ret ?_)
    (with_reducible refine W.cnd (fun hlt => ?_) (fun hlt => ?_) <;> (try simp only [q1, q2, q3, q4, q5, q6, q7, q8, q9, q10, q11, q12, q13, q14, q15, q16, q17, q18, q19, q20, q21, q22, q23, q24, q25, q26, q27, q28, q29, q30, Kd.ty] at hlt) <;> (try (exfalso; omega)))
    · repeat' (with_reducible (first | refine W.asV ?_ | refine W.fldp ?_ | refine W.nck ?_ | refine W.ldL (Loc.up (by assumption)) (by with_unfolding_all rfl) ?_))
      refine W.own_push (bytes := 8) Vw.int_flat ks HH.tn (a := (0 : Int)) rfl (by omega) (by omega) fun x2 τ5 T5 ks H5 => ?_
      replace HH := HH.trans H5.oe
      replace k1 := k1.hop H5
      replace kp := kp.hopO H5
      replace kh := kh.hopB H5
      replace kq := kq.hop H5
      replace kl := kl.hop H5
      replace kg := kg.hop H5
      replace ka := ka.hop H5
      have hn := HH.tn
      repeat' (with_reducible (first | refine W.fldp ?_ | refine W.nck ?_ | refine W.scalS (Own.slT (by assumption)) ?_))
      refine W.stT k1 hn (Nat.le_of_ble_eq_true (by rfl)) fun τ6 H6 k1 hnτ6 => ?_
      replace HH := HH.trans H6.oe
      replace kp := kp.hopO H6
      replace kh := kh.hopB H6
      replace kq := kq.hop H6
      replace ka := ka.hop H6
      replace ks := ks.hop H6
      replace kl := kl.hop H6
      replace kg := kg.hop H6
      replace hn := H6.tn
      repeat' (with_reducible refine W.next ?_)
      exact ⟨N + 1 - (sv3 ++ [0]).length, by simp; omega, T5, _, x2, HH, k1, kp, kh, kq, ks, by simp; omega, rfl, kl, kg, ka⟩
    · repeat' (with_reducible refine W.stop ?_)
      exact ⟨T3, HH, h1, xs3, xl, xg, conf, bump, most, sv3, ws, k1, kp, kh, kq, km, ks, by omega, kl, kg, ka⟩
  · obtain ⟨r, τ3⟩ := r
    obtain ⟨T3, HH, E⟩ := hr
    repeat' (with_reducible refine W.ret ?_)
    exact ⟨T3, hs2, HH, E, hm⟩
theorem EnL.grow {hs' : List Int} (L : EnL gl n C s hs ln lg since least w) (m : Nat) (hm : ∀ x : Int, x ∈ hs' ↔ x ∈ hs ∨ ((n : Int) < x ∧ x ≤ (n : Int) + m)) : EnL gl (n + m) C (s.grow m) hs' ln lg since least w := by
  obtain ⟨S1, S2⟩ := L.si.grow m
  have hv : ∀ v : Nat, v ≤ n → val (s.grow m).vs v = val s.vs v := fun v hv => by
    have := L.si.ti.len.vs
    unfold val PS.grow
    simp only [Int.natAbs_natCast]
    rw [getD_app (by omega)]
    have e1 : ¬ (s.vs ++ List.replicate m 0).length ≤ v := by simp; omega
    have e2 : ¬ s.vs.length ≤ v := by omega
    simp only [e1, e2]
  refine ⟨S1, fun v h1 h2 h3 => (hm v).2 ?_, L.lnI, L.lnN, L.orI, L.snd, fun c hc x hx => isL_le (L.cl c hc x hx) (by omega), L.lgI, L.z1, ?_, L.z3, L.z4, L.z5, L.z6⟩
  · by_cases hvn : v ≤ n
    · exact .inl (L.hp v h1 hvn (by rw [← hv v hvn]; exact h3))
    · exact .inr (by omega)
  · have := L.z2
    rw [S2]; exact this
end
end Go.Proofs.YtekehmgfedmflaaDoor.A

/- The engine in the heap: new, given clauses, of clauses, asked once. -/
namespace Go.Proofs.YtekehmgfedmflaaDoor.A
open Go
theorem StI.zero : StI 0 PS.zero := by
  have hc : ∀ (id : Nat) x, ¬ PS.zero.cls[id]? = some x := fun id x h => by simp [PS.zero] at h
  have ht : ∀ l, ¬ l ∈ PS.zero.trail := fun l h => by simp [PS.zero] at h
  have htg : ∀ (i : Nat) l, ¬ PS.zero.trail[i]? = some l := fun i l h => by simp [PS.zero] at h
  refine ⟨⟨⟨rfl, rfl, rfl, rfl⟩, ?_, fun l h => absurd h (ht l), fun l => ⟨fun h => ?_, fun h => absurd h (ht l)⟩, by simp [PS.zero], fun l h => absurd h (ht l), fun k m h => by simp [PS.zero] at h, fun i l h => absurd h (htg i l)⟩, fun id c f h => absurd h (hc _ _), ⟨by simp [PS.zero], fun x h => by simp [PS.zero] at h, fun id c b h => absurd h (hc _ _)⟩, fun id c f h => absurd h (hc _ _), fun w hw e he => ?_, ⟨0, rfl, Nat.zero_le _, fun m h => by simp [PS.zero] at h, fun id c h => absurd h (hc _ _)⟩⟩
  · intro i x; simp [PS.zero] at x; omega
  · exfalso
    unfold val PS.zero at h
    have : ([0] : List Int).getD l.natAbs 0 = 0 := by
      rcases hq : l.natAbs with _ | k
      · rfl
      · simp
    rw [this] at h
    simp at h
  · simp [PS.zero] at hw
    subst hw; cases he
section
variable {σ τ : Heap} {T T' : Tg} {e : EnP} {n k id : Nat} {s : PS} {hs c : List Int} {ln : List (Int × Int)} {lg : List (Bool × List Int)} {since least most : Int} {x : AVal} {A xs : List Int} {gl : Bool} {C : List (List Int)} {w : Nat} {sc : (List Int × List Int × List Int × List Int) × Int × Int}
theorem EnL.zero : EnL gl 0 [] PS.zero [] [] [] 0 16 0 :=
  ⟨StI.zero, fun v h1 h2 => (by omega), fun e h => (by cases h), List.nodup_nil, fun c h => (by cases h), fun m h c hc => (by simp [PS.db, PS.zero] at hc), fun c h => (by cases h), fun _ => ⟨[], [], .nil, by simp [PS.db, PS.zero]⟩, Nat.le_refl _, by decide, Nat.le_refl _, Nat.le_refl _, by omega, by omega⟩
theorem PcI.hopP (p : PcI σ T k most since least) (H : Hop pI σ T τ T') : PcI τ T' k most since least := p.hop H
/-- An engine of a script that others may go through. -/
theorem engPaced_w {lq vars : Nat} (hq : PcI σ T lq most 0 16) (hm : most ≤ 0) (hn : Tn σ T) (hv : vars ≤ 4000) :
    W (S.sat_Paced (vars : Int) (.ptr lq 0) σ) fun r => ∃ T' e s hs, r.1 = .ptr e.le 0 ∧ Hop eI σ T r.2 T' ∧ EnX r.2 T' e vars s hs [] [] 0 16 ∧ EnL gl vars [] s hs [] [] 0 16 0 ∧ s.marks = [] := by
  unfold S.sat_Paced
  refine W.bind ?_
  refine W.mono (propNew_w hn) fun r hr => ?_
  obtain ⟨r, τ1⟩ := r
  obtain ⟨T1, lp, h1, er, H1, kp⟩ := hr
  dsimp only at er H1 kp ⊢
  subst er
  replace hq := hq.hop H1
  have HH := H1.pe
  refine W.bind ?_
  refine W.mono (heapNew_w HH.tn) fun r hr => ?_
  obtain ⟨r, τ2⟩ := r
  obtain ⟨T2, lh, er, H2, kh⟩ := hr
  dsimp only at er H2 kh ⊢
  subst er
  replace hq := hq.hop H2
  replace kp := kp.hopH H2
  replace HH := HH.trans H2.he
  have hn := HH.tn
  repeat' (with_reducible refine W.scP ?_)
  refine W.newT 31 hn fun l3 τ3 T3 hl3 H3 k1 hnτ3 => ?_
  replace hq := hq.hop H3
  replace kp := kp.hopO H3
  replace kh := kh.hopB H3
  replace HH := HH.trans H3.oe
  have E : EnW τ3 T3 ⟨l3, lp, lh, lq⟩ 0 PS.zero [] [] [] 0 16 0 := ⟨_, _, _, _, _, _, most, [], [], k1, kp, kh, hq, hm, Own.nil, rfl, Own.nil, Own.nil, ⟨rfl, fun i a y => (by simp at y)⟩⟩
  refine W.bind ?_
  refine W.mono (engGrow_w (vars := vars) E HH.tn ⟨rfl, rfl, rfl, rfl⟩ (by omega) (by omega) hv) fun r hr => ?_
  obtain ⟨r, τ4⟩ := r
  obtain ⟨T4, hs4, H4, E4, hm4⟩ := hr
  dsimp only at H4 E4 ⊢
  have hL := (EnL.zero (gl := gl)).grow (hs' := hs4) (vars - 0) (fun x => by rw [hm4]; simp)
  rw [show 0 + (vars - 0) = vars from by omega] at E4 hL
  repeat' (with_reducible refine W.ret ?_)
  exact ⟨T4, ⟨l3, lp, lh, lq⟩, _, hs4, rfl, HH.trans H4, E4, hL, rfl⟩
theorem add1_w {l1 u : Nat} {y : AVal} (E : EnX σ T e n s hs ln lg since least) (hc : SlV .int (σ.at T u) A x) (hAL : A.length ≤ 1000000) (hl1 : Loc (σ.at T 0) l1 [.ptr e.le 0]) (hv : s.vs.length = n + 1) (hn4 : n ≤ 4000) {f : AVal} (hf : ∀ l ∈ A, ∀ {Rt : Type} (K : AVal → Heap → Option Rt), callV S.slices_IndexFunc_int_int.T f [.int .i64 l] σ K = (S.sat_Engine_Add_1 l (.ptr l1 0) σ).bind fun x => K (retV [.B] x) σ) :
    W (S.slices_ContainsFunc_int_int x f σ) fun r => r = (A.any fun l => !isL l n, σ) := by
  refine containsFunc_w (fun l => !isL l n) hc.up (by omega) fun l hl Rt K => ?_
  rw [hf l hl]
  have e1 : S.sat_Engine_Add_1 l (.ptr l1 0) σ = some (!isL l n) := by
    obtain ⟨r, er, rfl⟩ : W (S.sat_Engine_Add_1 l (.ptr l1 0) σ) fun r => r = !isL l n := by
      obtain ⟨h, xs, xl, xg, conf, bump, most, sv, ws, E⟩ := E
      have k1 := E.obj
      unfold S.sat_Engine_Add_1
      repeat' (with_reducible (first | refine W.bind ?_ | refine W.asV ?_ | refine W.fldp ?_ | refine W.nck ?_ | refine W.ldL (Loc.up (by assumption)) (by with_unfolding_all rfl) ?_))
      refine W.to (propVars_eq E.prop hv hn4) ?_
      repeat' (with_reducible (first | refine W.ret ?_ | refine W.bind ?_))
      refine W.to (litsIs_eq (by omega) (by omega)) ?_
      repeat' (with_reducible refine W.ret ?_)
      rfl
    exact er
  rw [e1]
  rfl
theorem EnX.hle (E : EnX σ T e n s hs ln lg since least) (L : Hle σ τ) : EnX τ T e n s hs ln lg since least := by
  obtain ⟨h, xs, xl, xg, conf, bump, most, sv, ws, E⟩ := E
  exact ⟨h, xs, xl, xg, conf, bump, most, sv, ws, E.hle L⟩
theorem EnX.hopE {t : Nat} (E : EnX σ T e n s hs ln lg since least) (H : Hop (only t) σ T τ T') (ht : (decide (15 ≤ t) && decide (t ≤ 29)) || (decide (35 ≤ t) && decide (t ≤ 49)) = true := by rfl) : EnX τ T' e n s hs ln lg since least := by
  obtain ⟨h, xs, xl, xg, conf, bump, most, sv, ws, E⟩ := E
  exact ⟨h, xs, xl, xg, conf, bump, most, sv, ws, E.hopE H ht⟩
/-- A clause. -/
theorem engAdd_w {u : Nat} (E : EnX σ T e n s hs ln lg since least) (hn : Tn σ T) (L : EnL gl n C s hs ln lg since least w) (hn4 : n ≤ 4000) (hw : w ≤ 1000000000) (hc : SlV .int (σ.at T u) c x) (hl : c.length ≤ 1000000) (hb : ∀ l ∈ c, isL l n = true) (hg : gl = true → lg = []) :
    W (S.sat_Engine_Add (.ptr e.le 0) x σ) fun r => r.1 = true ∧ ∃ T' s', Hop eI σ T r.2 T' ∧ EnX r.2 T' e n s' hs ln lg since least ∧ EnL gl n (C ++ [c]) s' hs ln lg since least (w + 1) ∧ s'.marks = s.marks := by
  have hL2 := L.add hb hg
  unfold S.sat_Engine_Add
  repeat' (with_reducible refine W.scP ?_)
  refine W.new0 hn fun l1 τ1 _ L1 hl1 hn1 => ?_
  replace E := E.hle L1
  replace hc := hc.hle L1
  have HH : Hop eI σ T τ1 T := Hop.of hn L1
  refine W.bind ?_
  refine W.mono (add1_w E hc hl hl1 L.si.ti.len.vs hn4 (y := x) (fun l hl Rt K => rfl)) fun r hr => ?_
  subst hr
  dsimp only
  refine W.condF (by rw [List.any_eq_false]; intro l hl; simp [hb l hl]) ?_
  obtain ⟨h, xs, xl, xg, conf, bump, most, sv, ws, E⟩ := E
  obtain ⟨k1, kp, kh, kq, km, ks, ksl, kl, kg, ka⟩ := E
  repeat' (with_reducible (first | refine W.bind ?_ | refine W.asV ?_ | refine W.fldp ?_ | refine W.nck ?_ | refine W.ldL (Loc.up (by assumption)) (by with_unfolding_all rfl) ?_))
  have z1 := L.z1
  have z2 := L.z2
  refine W.mono (propAdd_w (n := n) kp hn1 L.si.ti.len hn4 hc (by
    rw [List.all_eq_true]
    exact fun l hl => isL_in (hb l hl) hn4) hl (by omega) (by omega) (fun w' hw' => by have := ent_le hw'; omega)) fun r hr => ?_
  obtain ⟨r, τ2⟩ := r
  obtain ⟨T2, h2, H2, hr⟩ := hr
  dsimp only at H2 hr ⊢
  repeat' (with_reducible refine W.ret ?_)
  have hbad : addBad n c = !saysN c := by
    unfold addBad
    have : ((normL c).any fun l => !isL l n) = false := by
      rw [List.any_eq_false]; intro l hl; simp [hb l (normL_mem.1 hl)]
    rw [this]; simp
  refine ⟨rfl, T2, _, HH.trans H2.pe, ⟨h2, xs, xl, xg, conf, bump, most, sv, ws, k1.hop H2, ?_, kh.hopP H2, kq.hop H2, km, ks.hop H2, ksl, kl.hop H2, kg.hop H2, ka.hop H2⟩, hL2, ?_⟩
  · rcases hr with ⟨q, _, kp⟩ | ⟨q, _, kp⟩
    · rw [hbad] at q
      rw [if_neg (by simpa using q)]; exact kp
    · rw [hbad] at q
      rw [if_pos (by simpa using q), ← add_eq]; exact kp
  · split <;> rfl
end
end Go.Proofs.YtekehmgfedmflaaDoor.A

/- The engine in the heap: of clauses, asked once; the laws' first examples and scripts. -/
namespace Go.Proofs.YtekehmgfedmflaaDoor.A
open Go
section
variable {σ τ : Heap} {T T' : Tg} {e : EnP} {n k id : Nat} {s : PS} {hs c : List Int} {ln : List (Int × Int)} {lg : List (Bool × List Int)} {since least most : Int} {x y : AVal} {A xs : List Int} {gl : Bool} {C cs : List (List Int)} {w : Nat} {sc : (List Int × List Int × List Int × List Int) × Int × Int}
/-- An engine and what was put in. -/
def En (gl : Bool) (σ : Heap) (T : Tg) (e : EnP) (n : Nat) (C : List (List Int)) (w : Nat) : Prop := ∃ s hs ln lg since least, EnX σ T e n s hs ln lg since least ∧ EnL gl n C s hs ln lg since least w ∧ s.marks = [] ∧ (gl = true → lg = [] ∧ ln = [] ∧ since = 0 ∧ least = 16)
theorem EnX.hopO {t : Nat} (E : EnX σ T e n s hs ln lg since least) (H : Hop (only t) σ T τ T') (ht : (decide (15 ≤ t) && decide (t ≤ 29)) || (decide (35 ≤ t) && decide (t ≤ 49)) = true := by rfl) : EnX τ T' e n s hs ln lg since least := E.hopE H ht
theorem En.hop {t : Nat} (E : En gl σ T e n C w) (H : Hop (only t) σ T τ T') (ht : (decide (15 ≤ t) && decide (t ≤ 29)) || (decide (35 ≤ t) && decide (t ≤ 49)) = true := by rfl) : En gl τ T' e n C w := by
  obtain ⟨s, hs, ln, lg, since, least, E, h⟩ := E
  exact ⟨s, hs, ln, lg, since, least, E.hopE H ht, h⟩
theorem En.hle (E : En gl σ T e n C w) (L : Hle σ τ) : En gl τ T e n C w := by
  obtain ⟨s, hs, ln, lg, since, least, E, h⟩ := E
  exact ⟨s, hs, ln, lg, since, least, E.hle L, h⟩
theorem enAddE_w {u : Nat} (E : En gl σ T e n C w) (hn : Tn σ T) (hn4 : n ≤ 4000) (hw : w ≤ 1000000000) (hc : SlV .int (σ.at T u) c x) (hl : c.length ≤ 1000000) (hb : ∀ l ∈ c, isL l n = true) :
    W (S.sat_Engine_Add (.ptr e.le 0) x σ) fun r => r.1 = true ∧ ∃ T', Hop eI σ T r.2 T' ∧ En gl r.2 T' e n (C ++ [c]) (w + 1) := by
  obtain ⟨s, hs, ln, lg, since, least, E, L, hm, hg⟩ := E
  exact (engAdd_w E hn L hn4 hw hc hl hb fun h => (hg h).1).mono fun r hr => ⟨hr.1, hr.2.elim fun T' hr => hr.elim fun s' hr => ⟨T', hr.1, s', hs, ln, lg, since, least, hr.2.1, hr.2.2.1, by rw [hr.2.2.2, hm], hg⟩⟩
/-- What a question comes to, without the log. -/
def SoA (σ : Heap) (T : Tg) (n : Nat) (C : List (List Int)) (A : List Int) (r : AVal × AVal) : Prop :=
  (∃ y M, r = (.agg [.bool true, y, .nils], .nili) ∧ SlV .bool (σ.at T 0) M y ∧ M.length = n + 1 ∧ mods (mOf M) C ∧ ∀ a ∈ A, holds (mOf M) a = true) ∨
  (∃ y core, r = (.agg [.bool false, .nils, y], .nili) ∧ SlV .int (σ.at T 0) core y ∧ (∀ l ∈ core, l ∈ A) ∧ (∀ m, mods m C → ¬ ∀ l ∈ core, holds m l = true) ∧ core.length ≤ n + 1)
theorem isL_right {l : Int} {n : Nat} (h : l ≠ 0 ∧ -(n : Int) ≤ l ∧ l ≤ n) : isL l n = true := isL_iff.2 (by omega)
end
end Go.Proofs.YtekehmgfedmflaaDoor.A

/- The engine in the heap: clauses, asked once; the first examples; scripts. -/
namespace Go.Proofs.YtekehmgfedmflaaDoor.A
open Go
def eL : Nat → Bool := fun j => eK j || j == 38
theorem Hop.kl {σ τ : Heap} {T T' : Tg} (H : Hop eK σ T τ T') : Hop eL σ T τ T' := H.sub fun i hi => by simp [eL, hi]
theorem Hop.ol {σ τ : Heap} {T T' : Tg} {t : Nat} (H : Hop (only t) σ T τ T') (ht : eL t = true := by rfl) : Hop eL σ T τ T' := H.sub fun i hi => by
  have : i = t := by simpa using hi
  rw [this]; exact ht
section
variable {R : Type} {Q : R → Prop} {σ τ : Heap} {T T' : Tg}
/-- A new list of one, that stays. -/
theorem W.new1 {α : Type} {v : Vw α} (hn : Tn σ T) {u : AVal} (a : α) (hsz : v.sz = 1) (hr : ∀ τ, Hle (σ.at T 0) τ → v.rel τ a [u]) {K : Nat → Heap → Option R}
    (c : ∀ l τ, l = σ.next → Hle σ τ → SlV v (τ.at T 0) [a] (.sl l 0 1 none) → Tn τ T → W (K l τ) Q) : W (newK σ 1 [u] K) Q :=
  have L := (Hle.refl σ).new (.cells .rw 1 [u])
  c σ.next _ rfl L (.inr ⟨σ.next, 0, none, .rw, [u], rfl, Nat.lt_succ_self _, by rw [hsz]; exact at_of (hn.z _ (Nat.le_refl _)) (by rw [hnew_get, if_pos rfl]), by simp [hsz], fun i b hi => by
    match i, hi with
    | 0, hi => cases hi; simp only [hsz]; exact hr _ (L.ats T 0)
    | i + 1, hi => simp at hi⟩) (hn.mono L)
/-- Lists of numbers that are new stay. -/
theorem Acc.atF {n0 : Nat} {cs : List (List Int)} {y : AVal} (h : Acc (vIsF n0) n0 τ cs y) (hT : ∀ k, n0 ≤ k → T k = 0) : SlV vIs (τ.at T 0) cs y := by
  rcases h with h | ⟨l, us, rfl, h2, h3, h4, h5, h6⟩
  · exact .inl h
  · refine .inr ⟨l, 0, none, .rw, us, rfl, h3, at_of (hT l h2) h4, by rw [Nat.zero_add]; exact h5, fun i a hi => ?_⟩
    obtain ⟨x, e1, e2, e3⟩ := h6 i a hi
    have e1 : List.take 1 (List.drop (i * 1) us) = [x] := e1
    refine ⟨x, by rw [Nat.zero_add]; exact e1, ?_⟩
    rcases e2 with e2 | ⟨j, off, c, md, vs, rfl, g2, g3, g4, g5⟩
    · exact .inl e2
    · have hj := e3 _ _ _ _ rfl
      have hne : j ≠ l := fun e => by
        subst e
        rw [hkill_get, if_pos rfl] at g3; cases g3
      rw [hkill_get, if_neg hne] at g3
      exact .inr ⟨j, off, c, md, vs, rfl, g2, at_of (hT j hj) g3, g4, g5⟩
end
section
variable {σ τ : Heap} {T T' : Tg} {e : EnP} {n k id : Nat} {x y : AVal} {A : List Int} {C cs : List (List Int)} {w : Nat} {sc : (List Int × List Int × List Int × List Int) × Int × Int}
theorem SoA.agg {r : AVal × AVal} (h : SoA σ T n C A r) : r.2 = .nili ∧ ∃ b u v, r.1 = .agg [.bool b, u, v] := by
  rcases h with ⟨y, M, rfl, _⟩ | ⟨y, core, rfl, _⟩
  · exact ⟨rfl, _, _, _, rfl⟩
  · exact ⟨rfl, _, _, _, rfl⟩
theorem SoA.hop {I : Nat → Bool} {r : AVal × AVal} (h : SoA σ T n C A r) (H : Hop I σ T τ T') (h0 : I 0 = false := by rfl) : SoA τ T' n C A r := by
  rcases h with ⟨y, M, e, h1, h2⟩ | ⟨y, core, e, h1, h2⟩
  · exact .inl ⟨y, M, e, h1.hop H h0, h2⟩
  · exact .inr ⟨y, core, e, h1.hop H h0, h2⟩
theorem SoA.hle {r : AVal × AVal} (h : SoA σ T n C A r) (L : Hle σ τ) : SoA τ T n C A r := by
  rcases h with ⟨y, M, e, h1, h2⟩ | ⟨y, core, e, h1, h2⟩
  · exact .inl ⟨y, M, e, h1.hle L, h2⟩
  · exact .inr ⟨y, core, e, h1.hle L, h2⟩
theorem small_w (h : ScV σ y sc) : W (S.skolemmake_Small y σ) fun r => (r.1 = true ↔ ScS sc) ∧ Hle σ r.2 := by
  obtain ⟨x0, x1, x2, x3, rfl, h0, h1, h2, h3⟩ := h
  unfold S.skolemmake_Small
  repeat' (with_reducible refine W.aggK (by with_unfolding_all rfl) ?_)
  refine W.new fun l2 τ1 hl2 L1 k1 hnτ1 => ?_
  replace h0 := h0.mono L1
  replace h1 := h1.mono L1
  replace h2 := h2.mono L1
  replace h3 := h3.mono L1
  repeat' (with_reducible (first | refine W.bind ?_ | refine W.asV ?_ | refine W.len (by assumption) ?_ | refine W.ldL (by assumption) (by with_unfolding_all rfl) ?_))
  have hh : (decide ((sc.1.1.length : Int) ≤ 50) && decide ((sc.1.2.1.length : Int) ≤ 50) && decide ((sc.1.2.2.1.length : Int) ≤ 50) && decide ((sc.1.2.2.2.length : Int) ≤ 50)) = true ↔ ScS sc := by
    unfold ScS
    simp only [Bool.and_eq_true, decide_eq_true_eq]
    omega
  (with_reducible refine W.cnd (fun hq1 => ?_) (fun hq1 => ?_) <;> (try simp only [q1, q2, q3, q4, q5, q6, q7, q8, q9, q10, q11, q12, q13, q14, q15, q16, q17, q18, q19, q20, q21, q22, q23, q24, q25, q26, q27, q28, q29, q30, Kd.ty] at hq1) <;> (try (exfalso; omega)))
  · repeat' (with_reducible (first | refine W.asV ?_ | refine W.len (by assumption) ?_ | refine W.ldL (by assumption) (by with_unfolding_all rfl) ?_))
    (with_reducible refine W.cnd (fun hq2 => ?_) (fun hq2 => ?_) <;> (try simp only [q1, q2, q3, q4, q5, q6, q7, q8, q9, q10, q11, q12, q13, q14, q15, q16, q17, q18, q19, q20, q21, q22, q23, q24, q25, q26, q27, q28, q29, q30, Kd.ty] at hq2) <;> (try (exfalso; omega)))
    · repeat' (with_reducible (first | refine W.asV ?_ | refine W.len (by assumption) ?_ | refine W.ldL (by assumption) (by with_unfolding_all rfl) ?_))
      (with_reducible refine W.cnd (fun hq3 => ?_) (fun hq3 => ?_) <;> (try simp only [q1, q2, q3, q4, q5, q6, q7, q8, q9, q10, q11, q12, q13, q14, q15, q16, q17, q18, q19, q20, q21, q22, q23, q24, q25, q26, q27, q28, q29, q30, Kd.ty] at hq3) <;> (try (exfalso; omega)))
      · repeat' (with_reducible (first | refine W.ret ?_ | refine W.asV ?_ | refine W.len (by assumption) ?_ | refine W.ldL (by assumption) (by with_unfolding_all rfl) ?_))
        refine ⟨?_, L1⟩
        rw [← hh]; simp [hq1, hq2, hq3]
      · repeat' (with_reducible refine W.ret ?_)
        exact ⟨⟨fun h => (by cases h), fun h => (by unfold ScS at h; omega)⟩, L1⟩
    · repeat' (with_reducible refine W.ret ?_)
      exact ⟨⟨fun h => (by cases h), fun h => (by unfold ScS at h; omega)⟩, L1⟩
  · repeat' (with_reducible refine W.ret ?_)
    exact ⟨⟨fun h => (by cases h), fun h => (by unfold ScS at h; omega)⟩, L1⟩
def frL : Nat → Bool := fun j => j == 38 || j == 39
theorem Hop.fl (H : Hop frL σ T τ T') : Hop eL σ T τ T' := H.sub fun i hi => by simp [frL, eL, eK] at hi ⊢; omega
theorem free_w (h : ScV (σ.at T 0) y sc) (hn : Tn σ T) : W (S.skolemmake_Free y σ) fun r => ∃ T', Hop frL σ T r.2 T' ∧ ScV (r.2.at T' 0) r.1 (sc.1, 0, 0) := by
  obtain ⟨x0, x1, x2, x3, rfl, h0, h1, h2, h3⟩ := h
  unfold S.skolemmake_Free
  repeat' (with_reducible refine W.aggK (by with_unfolding_all rfl) ?_)
  refine W.newT 38 hn fun l2 τ1 T1 hl2 H1 k1 hnτ1 => ?_
  replace h0 := h0.hop H1
  replace h1 := h1.hop H1
  replace h2 := h2.hop H1
  replace h3 := h3.hop H1
  replace hn := H1.tn
  refine W.newT 39 hn fun l4 τ2 T2 hl4 H2 k2 hnτ2 => ?_
  replace h0 := h0.hop H2
  replace h1 := h1.hop H2
  replace h2 := h2.hop H2
  replace h3 := h3.hop H2
  replace k1 := k1.hop H2
  replace hn := H2.tn
  refine W.stT k1 hn (Nat.le_of_ble_eq_true (by rfl)) fun τ3 H3 k1 hnτ3 => ?_
  replace h0 := h0.hop H3
  replace h1 := h1.hop H3
  replace h2 := h2.hop H3
  replace h3 := h3.hop H3
  replace k2 := k2.hop H3
  replace hn := H3.tn
  refine W.stT k1 hn (Nat.le_of_ble_eq_true (by rfl)) fun τ4 H4 k1 hnτ4 => ?_
  replace h0 := h0.hop H4
  replace h1 := h1.hop H4
  replace h2 := h2.hop H4
  replace h3 := h3.hop H4
  replace k2 := k2.hop H4
  replace hn := H4.tn
  repeat' (with_reducible (first | refine W.aggK (by with_unfolding_all rfl) ?_ | refine W.ldGL (Loc.up (by assumption)) (Nat.le_of_ble_eq_true (by with_unfolding_all rfl)) ?_))
  refine W.stT k2 hn (Nat.le_of_ble_eq_true (by rfl)) fun τ5 H5 k2 hnτ5 => ?_
  replace h0 := h0.hop H5
  replace h1 := h1.hop H5
  replace h2 := h2.hop H5
  replace h3 := h3.hop H5
  replace hn := H5.tn
  repeat' (with_reducible (first | refine W.ret ?_ | refine W.ldGL (Loc.up (by assumption)) (Nat.le_of_ble_eq_true (by with_unfolding_all rfl)) ?_))
  have f8 : ∀ {σ τ : Heap} {T T' : Tg}, Hop (only 38) σ T τ T' → Hop frL σ T τ T' := fun H => H.sub fun i hi => by simp [frL] at hi ⊢; omega
  have f9 : ∀ {σ τ : Heap} {T T' : Tg}, Hop (only 39) σ T τ T' → Hop frL σ T τ T' := fun H => H.sub fun i hi => by simp [frL] at hi ⊢; omega
  exact ⟨T2, ((((f8 H1).trans (f9 H2)).trans (f8 H3)).trans (f8 H4)).trans (f9 H5), x0, x1, x2, x3, rfl, h0, h1, h2, h3⟩
end
end Go.Proofs.YtekehmgfedmflaaDoor.A

/- SatSays. -/
namespace Go.Proofs.YtekehmgfedmflaaDoor.A
open Go
theorem SlV.tz0 {α : Type} {v : Vw α} {σ : Heap} {xs : List α} {x : AVal} (h : SlV v σ xs x) : SlV v (σ.at Tz 0) xs x := by rw [at_tz]; exact h
theorem GlS.tz0 {σ : Heap} {E : List Er} (h : GlS E σ) : GlS E (σ.at Tz 0) := by rw [at_tz]; exact h
theorem Hle.at0 {σ : Heap} {T : Tg} : Hle (σ.at T 0) σ := at_le
section
variable {σ τ : Heap} {T T' : Tg} {e : EnP} {n k id : Nat} {x y : AVal} {A : List Int} {C cs : List (List Int)} {w : Nat} {sc : (List Int × List Int × List Int × List Int) × Int × Int}
theorem ScV.up (h : ScV (σ.at T 0) x sc) : ScV σ x sc := by
  obtain ⟨x0, x1, x2, x3, e, h1, h2, h3, h4⟩ := h
  exact ⟨x0, x1, x2, x3, e, h1.up, h2.up, h3.up, h4.up⟩
theorem GlS.up {E : List Er} (h : GlS E (σ.at T 0)) : GlS E σ := h.mono at_le
/-- A new object that gets a value, and stays. -/
theorem W.newA {R : Type} {Q : R → Prop} (hn : Tn σ T) {sz m : Nat} {zs ds : List AVal} {K : Nat → Heap → Option R} (hz : zs.length = m) (hd : ds.length = m)
    (c : ∀ l τ, l = σ.next → Hle σ τ → Loc (τ.at T 0) l ds → Tn τ T → W (K l τ) Q) : W (YtekehmgfedmflaaDoor.A.newK σ sz zs fun l σ' => YtekehmgfedmflaaDoor.A.aggK (.agg ds) m fun cs => YtekehmgfedmflaaDoor.A.stC σ' (.ptr l 0) cs (K l)) Q := by
  refine W.newg fun l τ1 hl L1 _ g1 n1 => ?_
  refine W.aggK hd ?_
  refine W.st0 (cs := zs) (vs := ds) ⟨by omega, sz, g1⟩ (by omega) fun τ2 L2 e2 h2 => ?_
  have L := L1.ofk (by omega) L2
  obtain ⟨sz2, g2⟩ := h2.get
  exact c l τ2 hl L ⟨h2.lt, sz2, at_of (hn.z _ (by omega)) g2⟩ (hn.mono L)
end
end Go.Proofs.YtekehmgfedmflaaDoor.A

/- Clauses put in, one after the other; lists of lists of one's own. -/
namespace Go.Proofs.YtekehmgfedmflaaDoor.A
open Go
/-- Lists of numbers, in a list of one's own. -/
def OL (σ : Heap) (T : Tg) (t : Nat) (cs : List (List Int)) (x : AVal) : Prop := ∃ ws, Own vRaw (σ.at T t) ws x ∧ ws.length = cs.length ∧ ∀ (i : Nat) c, cs[i]? = some c → ∃ w, ws[i]? = some w ∧ SlV .int (σ.at T 0) c w
section
variable {σ τ : Heap} {T T' : Tg} {e : EnP} {n k id t : Nat} {x y : AVal} {A c : List Int} {C cs : List (List Int)} {w : Nat} {sc : (List Int × List Int × List Int × List Int) × Int × Int} {gl : Bool} {I : Nat → Bool}
theorem OL.hop (h : OL σ T t cs x) (H : Hop I σ T τ T') (ht : I t = false := by rfl) (h0 : I 0 = false := by rfl) : OL τ T' t cs x := by
  obtain ⟨ws, h1, h2, h3⟩ := h
  exact ⟨ws, h1.hop H ht, h2, fun i c hi => (h3 i c hi).imp fun w hw => ⟨hw.1, hw.2.hop H h0⟩⟩
theorem OL.hle (h : OL σ T t cs x) (L : Hle σ τ) : OL τ T t cs x := by
  obtain ⟨ws, h1, h2, h3⟩ := h
  exact ⟨ws, h1.hle L, h2, fun i c hi => (h3 i c hi).imp fun w hw => ⟨hw.1, hw.2.hle L⟩⟩
theorem OL.sl (h : OL σ T t cs x) : SlV vIs σ cs x := by
  obtain ⟨ws, h1, h2, h3⟩ := h
  rcases h1.slT with ⟨rfl, rfl⟩ | ⟨l, off, c, md, us, rfl, g2, g3, g4, g5⟩
  · exact .inl ⟨rfl, List.eq_nil_of_length_eq_zero (by simpa using h2.symm)⟩
  · refine .inr ⟨l, off, c, md, us, by rw [h2], g2, g3, by rw [← h2]; exact g4, fun i a hi => ?_⟩
    obtain ⟨w, e1, e2⟩ := h3 i a hi
    exact ⟨w, g5 i w e1, e2.up⟩
theorem OL.nil : OL σ T t [] .nils := ⟨[], Own.nil, rfl, fun i c h => by simp at h⟩
theorem W.ol_push {R : Type} {Q : R → Prop} (h : OL σ T t cs x) (hn : Tn σ T) (hy : SlV .int (σ.at T 0) c y) (ht : t ≠ 0) (hb : cs.length ≤ 1000000) {K : AVal → Heap → Option R}
    (k : ∀ x' τ T', OL τ T' t (cs ++ [c]) x' → Hop (only t) σ T τ T' → W (K x' τ) Q) : W (YtekehmgfedmflaaDoor.A.newK σ 1 [y] fun l τ => YtekehmgfedmflaaDoor.A.appS τ 1 24 x (.sl l 0 1 none) K) Q := by
  obtain ⟨ws, h1, h2, h3⟩ := h
  refine W.own_push (bytes := 24) vRaw_flat h1 hn (a := y) rfl (by omega) (by omega) fun x' τ T' h1' H => ?_
  have h0 : (only t) 0 = false := by simp; omega
  refine k x' τ T' ⟨_, h1', by simp [h2], fun i d hi => ?_⟩ H
  rcases get_push hi with q | ⟨rfl, rfl⟩
  · obtain ⟨w, e1, e2⟩ := h3 i d q
    exact ⟨w, by rw [List.getElem?_append_left (get_len e1)]; exact e1, e2.hop H h0⟩
  · exact ⟨y, by rw [← h2]; simp, hy.hop H h0⟩
theorem Acc.ol {σ0 : Heap} (h : Acc (vIsF σ0.next) σ0.next τ cs y) (hn : Tn σ0 T) (L : Hle σ0 τ) (t : Nat) : ∃ T', Hop (only t) σ0 T τ T' ∧ OL τ T' t cs y := by
  rcases h with ⟨rfl, rfl⟩ | ⟨l, us, rfl, h1, h2, h3, h4, h5⟩
  · exact ⟨T, Hop.of hn L, OL.nil⟩
  · have H : Hop (only t) σ0 T τ (T.upd l t) := hop_tag hn L h1 h2
    refine ⟨T.upd l t, H, us.take cs.length, .inr ⟨l, 0, none, us, by rw [List.length_take, Nat.min_eq_left (by simpa [vIsF, Vw.slF] using h4)], h2, at_of upd_self h3, (fun k e => by cases e), ?_, fun i a hi => ?_⟩, ?_, fun i c hi => ?_⟩
    · rw [Nat.zero_add, List.length_take]; exact Nat.le_trans (Nat.mul_le_mul_right _ (Nat.min_le_right _ _)) (by simp [vRaw])
    · rw [List.getElem?_take] at hi
      split at hi
      · show List.take 1 (List.drop ((0 + i) * 1) us) = [a]
        rw [Nat.zero_add, Nat.mul_one, List.take_one, List.head?_drop, hi]; rfl
      · cases hi
    · rw [List.length_take, Nat.min_eq_left (by simpa [vIsF, Vw.slF] using h4)]
    · obtain ⟨z, e1, e2, e3⟩ := h5 i c hi
      have e1 : List.take 1 (List.drop (i * 1) us) = [z] := e1
      have hil := get_len hi
      rw [Nat.mul_one, List.take_one, List.head?_drop] at e1
      have e1 : us[i]? = some z := by
        cases hu : us[i]? with
        | none => rw [hu] at e1; cases e1
        | some v => rw [hu] at e1; cases e1; rfl
      refine ⟨z, by rw [List.getElem?_take, if_pos hil]; exact e1, ?_⟩
      rcases e2 with e2 | ⟨j, off, c', md, vs, rfl, g2, g3, g4, g5⟩
      · exact .inl e2
      · have hj := e3 _ _ _ _ rfl
        have hne : j ≠ l := fun e => by
          subst e
          rw [hkill_get, if_pos rfl] at g3; cases g3
        rw [hkill_get, if_neg hne] at g3
        have hT : (T.upd l t) j = 0 := by rw [upd_ne hne]; exact hn.z j hj
        exact .inr ⟨j, off, c', md, vs, rfl, g2, at_of hT g3, g4, g5⟩
def eA (t : Nat) : Nat → Bool := fun j => eK j || j == t
end
end Go.Proofs.YtekehmgfedmflaaDoor.A

/- Lists of one's own that stay; numbers put behind; literals that go together. -/
namespace Go.Proofs.YtekehmgfedmflaaDoor.A
open Go
section
variable {σ τ : Heap} {T T' : Tg} {t : Nat} {x y : AVal} {xs : List Int}
theorem Own.freeze {α : Type} {v : Vw α} {zs : List α} (hf : v.Flat) (h : Own v (σ.at T t) zs x) (hn : Tn σ T) : ∃ T', Hop (only t) σ T σ T' ∧ SlV v (σ.at T' 0) zs x := by
  rcases h with ⟨rfl, rfl⟩ | ⟨l, off, c, cs, rfl, h1, h2, h3, h4, h5⟩
  · exact ⟨T, Hop.refl hn, .inl ⟨rfl, rfl⟩⟩
  · obtain ⟨e1, e2⟩ := at_get.1 h2
    have h1 : l < σ.next := h1
    refine ⟨T.upd l 0, ⟨Nat.le_refl _, ⟨fun k hk => by rw [upd_ne (by omega)]; exact hn.z k hk⟩, fun k _ hI => upd_ne (fun e => by subst e; simp [only, e1] at hI), fun k o _ _ hg => hg⟩, .inr ⟨l, off, c, .rw, cs, rfl, h1, at_of upd_self e2, h4, fun i a hi => hf _ _ _ _ (h5 i a hi)⟩⟩
theorem Own.toRaw (h : Own .int σ xs x) : Own vRaw σ (xs.map (AVal.int .i64)) x := by
  rcases h with ⟨rfl, rfl⟩ | ⟨l, off, c, cs, rfl, h1, h2, h3, h4, h5⟩
  · exact Own.nil
  · refine .inr ⟨l, off, c, cs, by simp, h1, h2, h3, by rw [List.length_map]; exact h4, fun i a hi => ?_⟩
    rw [List.getElem?_map, Option.map_eq_some_iff] at hi
    obtain ⟨b, hb, rfl⟩ := hi
    exact h5 i b hb
end
end Go.Proofs.YtekehmgfedmflaaDoor.A

/- SatAssumes. -/
namespace Go.Proofs.YtekehmgfedmflaaDoor.A
open Go
section
variable {σ τ : Heap} {T T' : Tg} {e : EnP} {n k id t : Nat} {x y : AVal} {A c : List Int} {C cs : List (List Int)} {w : Nat} {sc : (List Int × List Int × List Int × List Int) × Int × Int} {gl : Bool}
theorem W.ol_ix {R : Type} {Q : R → Prop} {i : Nat} {a : List Int} (h : OL σ T t cs x) (ha : cs[i]? = some a) {K : AVal → Option R} (k : ∀ y, SlV .int (σ.at T 0) a y → W (K y) Q) : W (YtekehmgfedmflaaDoor.A.ixA σ x 1 (i : Int) fun p => YtekehmgfedmflaaDoor.A.ld σ p .V K) Q := by
  obtain ⟨ws, h1, h2, h3⟩ := h
  obtain ⟨w, e1, e2⟩ := h3 i a ha
  exact W.ixV h1.slT e1 (k w e2)
def aI : Nat → Bool := fun j => eK j || j == 36 || j == 38
theorem Hop.ka (H : Hop eK σ T τ T') : Hop aI σ T τ T' := H.sub fun i hi => by simp [aI, hi]
theorem Hop.ea (H : Hop (eA 36) σ T τ T') : Hop aI σ T τ T' := H.sub fun i hi => by
  unfold eA at hi
  unfold aI
  rcases Bool.or_eq_true_iff.1 hi with q | q
  · simp [q]
  · simp at q; simp [q]
end
end Go.Proofs.YtekehmgfedmflaaDoor.A

/- SatGrows. -/
namespace Go.Proofs.YtekehmgfedmflaaDoor.A
open Go
section
variable {σ τ : Heap} {T T' : Tg} {e : EnP} {n k id t : Nat} {x y : AVal} {A c : List Int} {C cs : List (List Int)} {w : Nat} {sc : (List Int × List Int × List Int × List Int) × Int × Int} {gl : Bool}
theorem enGrow_w {vars : Nat} (E : En gl σ T e n C w) (hn : Tn σ T) (hn4 : n ≤ 4000) (hv : vars ≤ 4000) :
    W (S.sat_Engine_Grow (.ptr e.le 0) (vars : Int) σ) fun r => ∃ T', Hop eI σ T r.2 T' ∧ En gl r.2 T' e (n + (vars - n)) C w := by
  obtain ⟨s, hs, ln, lg, since, least, E, L, hm, hg⟩ := E
  refine (engGrow_w (vars := vars) E.toW hn L.si.ti.len (Nat.le_refl _) hn4 hv).mono fun r hr => ?_
  obtain ⟨T', hs', H, E', hmm⟩ := hr
  exact ⟨T', H, _, hs', ln, lg, since, least, E', L.grow _ (fun x => by rw [hmm]; exact or_congr Iff.rfl (by omega)), hm, hg⟩
end
end Go.Proofs.YtekehmgfedmflaaDoor.A

/- The solver that is asked again: new, fresh variables, clauses, questions. -/
namespace Go.Proofs.YtekehmgfedmflaaDoor.A
open Go
section
variable {σ τ : Heap} {T T' : Tg} {e : EnP} {n k id t li : Nat} {x y : AVal} {A c : List Int} {C cs : List (List Int)} {w : Nat} {sc : (List Int × List Int × List Int × List Int) × Int × Int} {gl : Bool}
def iI : Nat → Bool := fun j => eK j || j == 36 || j == 38
theorem Hop.ki (H : Hop eK σ T τ T') : Hop iI σ T τ T' := H.sub fun i hi => by simp [iI, hi]
theorem Hop.oi {u : Nat} (H : Hop (only u) σ T τ T') (hu : iI u = true := by rfl) : Hop iI σ T τ T' := H.sub fun i hi => by
  have : i = u := by simpa using hi
  rw [this]; exact hu
/-- A solver. -/
structure IncG (gl : Bool) (σ : Heap) (T : Tg) (li : Nat) (e : EnP) (n : Nat) (C : List (List Int)) (w : Nat) (xc : AVal) : Prop where
  obj : Loc (σ.at T 36) li [.ptr e.le 0, .int .i64 n, xc, .int .i64 (C.flatten.length : Int)]
  en : En gl σ T e n C w
  cl : OL σ T 38 C xc
variable {xc : AVal}
theorem IncG.hop {u : Nat} (h : IncG gl σ T li e n C w xc) (H : Hop (only u) σ T τ T') (h1 : (only u) 36 = false := by rfl) (h2 : (only u) 38 = false := by rfl) (h0 : (only u) 0 = false := by rfl) (ht : (decide (15 ≤ u) && decide (u ≤ 29)) || (decide (35 ≤ u) && decide (u ≤ 49)) = true := by rfl) : IncG gl τ T' li e n C w xc :=
  ⟨h.obj.hop H h1, h.en.hop H ht, h.cl.hop H h2 h0⟩
theorem IncG.hle (h : IncG gl σ T li e n C w xc) (L : Hle σ τ) : IncG gl τ T li e n C w xc := ⟨h.obj.hle L, h.en.hle L, h.cl.hle L⟩
theorem incNew_w (gl : Bool) (h : ScV (σ.at T 0) x sc) (hn : Tn σ T) (hs : ScS sc) (hm : sc.2.1 ≤ 0) :
    W (S.incr_New x σ) fun r => ∃ T' li e xc, r.1 = .ptr li 0 ∧ Hop iI σ T r.2 T' ∧ IncG gl r.2 T' li e 0 [] 0 xc := by
  obtain ⟨x0, x1, x2, x3, rfl, h0, h1, h2, h3⟩ := h
  unfold S.incr_New
  repeat' (with_reducible refine W.aggK (by with_unfolding_all rfl) ?_)
  refine W.new0 hn fun l2 τ1 _ L1 k1 hn1 => ?_
  have hx : ScV (τ1.at T 0) (.agg [x0, x1, x2, x3, .int .i64 sc.2.1, .int .i64 sc.2.2]) sc := ⟨x0, x1, x2, x3, rfl, h0.hle L1, h1.hle L1, h2.hle L1, h3.hle L1⟩
  have HH : Hop iI σ T τ1 T := Hop.of hn L1
  repeat' (with_reducible (first | refine W.bind ?_ | refine W.ldGL (Loc.up (by assumption)) (Nat.le_of_ble_eq_true (by with_unfolding_all rfl)) ?_))
  refine W.mono (paceNew_w hx hn1 hs) fun r hr => ?_
  obtain ⟨r, τ2⟩ := r
  obtain ⟨T2, lq, er, H2, hq⟩ := hr
  dsimp only at er H2 hq ⊢
  subst er
  replace HH := HH.trans H2.ki
  unfold S.incr_Paced
  repeat' (with_reducible refine W.bind ?_)
  refine W.mono (engPaced_w (gl := gl) (vars := 0) hq hm HH.tn (by omega)) fun r hr => ?_
  obtain ⟨r, τ3⟩ := r
  obtain ⟨T3, e, s, hs, er, H3, hE, hL, hmk⟩ := hr
  dsimp only at er H3 hE ⊢
  subst er
  replace HH := HH.trans H3.ek.ki
  repeat' (with_reducible refine W.scP ?_)
  have hn := HH.tn
  refine W.newT 36 hn fun li τ4 T4 hli H4 k4 hnτ4 => ?_
  repeat' (with_reducible refine W.ret ?_)
  exact ⟨T4, li, e, .nils, rfl, HH.trans H4.oi, k4, ⟨s, hs, [], [], 0, 16, hE.hopE H4, hL, hmk, fun _ => ⟨rfl, rfl, rfl, rfl⟩⟩, OL.nil⟩
/-- So many new variables. -/
theorem fresh_w {m : Nat} (h : IncG gl σ T li e n C w xc) (hn : Tn σ T) (h1 : 1 ≤ m) (hm : n + m ≤ 4000) :
    W (S.incr_Solver_Fresh (.ptr li 0) (m : Int) σ) fun r => ∃ T', r.1 = (n : Int) + 1 ∧ Hop iI σ T r.2 T' ∧ IncG gl r.2 T' li e (n + m) C w xc := by
  obtain ⟨k1, E, hO⟩ := h
  have w1 : IntKind.i64.wrap (4000 - (n : Int)) = 4000 - n := by rw [wrapS] <;> omega
  have w2 : IntKind.i64.wrap ((n : Int) + (m : Int)) = ((n + m : Nat) : Int) := by rw [wrapS] <;> omega
  have w3 : IntKind.i64.wrap ((n : Int) + 1) = (n : Int) + 1 := by rw [wrapS] <;> omega
  unfold S.incr_Solver_Fresh
  repeat' (with_reducible refine W.bind ?_)
  refine W.condF (by simp; omega) ?_
  repeat' (with_reducible (first | refine W.ret ?_ | refine W.asI ?_ | refine W.fldp ?_ | refine W.nck ?_ | refine W.ldL (Loc.up (by assumption)) (by with_unfolding_all rfl) ?_))
  rw [w1]
  refine W.condF (by simp; omega) ?_
  repeat' (with_reducible (first | refine W.asI ?_ | refine W.fldp ?_ | refine W.nck ?_ | refine W.ldL (Loc.up (by assumption)) (by with_unfolding_all rfl) ?_))
  rw [w2]
  refine W.stT k1 hn (Nat.le_of_ble_eq_true (by rfl)) fun τ1 H1 k1 hnτ1 => ?_
  replace E := E.hop H1
  replace hO := hO.hop H1
  repeat' (with_reducible (first | refine W.bind ?_ | refine W.asI ?_ | refine W.asV ?_ | refine W.fldp ?_ | refine W.nck ?_ | refine W.ldL (Loc.up (by assumption)) (by with_unfolding_all rfl) ?_))
  refine W.mono (enGrow_w (vars := n + m) E H1.tn (by omega) (by omega)) fun r hr => ?_
  obtain ⟨r, τ2⟩ := r
  obtain ⟨T2, H2, E⟩ := hr
  dsimp only at H2 E ⊢
  rw [show n + (n + m - n) = n + m from by omega] at E
  repeat' (with_reducible refine W.ret ?_)
  exact ⟨T2, w3, H1.oi.trans H2.ek.ki, k1.hop H2.ek, E, hO.hop H2.ek⟩
theorem fresh0_w {m : Int} (h : IncG gl σ T li e n C w xc) (hn4 : n ≤ 4000) (h1 : m < 1 ∨ 4000 - (n : Int) < m) :
    W (S.incr_Solver_Fresh (.ptr li 0) m σ) fun r => r = (0, σ) := by
  obtain ⟨k1, E, hO⟩ := h
  have w1 : IntKind.i64.wrap (4000 - (n : Int)) = 4000 - n := by rw [wrapS] <;> omega
  unfold S.incr_Solver_Fresh
  repeat' (with_reducible refine W.bind ?_)
  (with_reducible refine W.cnd (fun hm1 => ?_) (fun hm1 => ?_) <;> (try simp only [q1, q2, q3, q4, q5, q6, q7, q8, q9, q10, q11, q12, q13, q14, q15, q16, q17, q18, q19, q20, q21, q22, q23, q24, q25, q26, q27, q28, q29, q30, Kd.ty] at hm1) <;> (try (exfalso; omega)))
  · repeat' (with_reducible refine W.ret ?_)
    refine W.condT rfl ?_
    repeat' (with_reducible refine W.ret ?_)
    rfl
  · repeat' (with_reducible (first | refine W.ret ?_ | refine W.asI ?_ | refine W.fldp ?_ | refine W.nck ?_ | refine W.ldL (Loc.up (by assumption)) (by with_unfolding_all rfl) ?_))
    rw [w1]
    refine W.condT (by simp; omega) ?_
    repeat' (with_reducible refine W.ret ?_)
    rfl
theorem vars_w (h : IncG gl σ T li e n C w xc) : S.incr_Solver_Vars (.ptr li 0) σ = some (n : Int) := by
  obtain ⟨r, er, rfl⟩ : W (S.incr_Solver_Vars (.ptr li 0) σ) fun r => r = (n : Int) := by
    have k1 := h.obj
    unfold S.incr_Solver_Vars
    repeat' (with_reducible (first | refine W.ret ?_ | refine W.asI ?_ | refine W.fldp ?_ | refine W.nck ?_ | refine W.ldL (Loc.up (by assumption)) (by with_unfolding_all rfl) ?_))
    rfl
  exact er
end
end Go.Proofs.YtekehmgfedmflaaDoor.A

/- The solver that is asked again: clauses. -/
namespace Go.Proofs.YtekehmgfedmflaaDoor.A
open Go
section
variable {σ τ : Heap} {T T' : Tg} {e : EnP} {n k id t li : Nat} {x y xc : AVal} {A c : List Int} {C cs : List (List Int)} {w : Nat} {gl : Bool}
theorem incMay1_w {l1 : Nat} (h : IncG gl σ T li e n C w xc) (hn4 : n ≤ 4000) (hc : SlV .int σ A x) (hAL : A.length ≤ 1000000) (hl1 : Loc (σ.at T 0) l1 [.ptr li 0]) {f : AVal} (hf : ∀ l ∈ A, ∀ {Rt : Type} (K : AVal → Heap → Option Rt), callV S.slices_IndexFunc_int_int.T f [.int .i64 l] σ K = (S.incr_Solver_may_1 l (.ptr l1 0) σ).bind fun x => K (retV [.B] x) σ) :
    W (S.slices_ContainsFunc_int_int x f σ) fun r => r = (A.any fun l => !isL l n, σ) := by
  refine containsFunc_w (fun l => !isL l n) hc (by omega) fun l hl Rt K => ?_
  rw [hf l hl]
  have e1 : S.incr_Solver_may_1 l (.ptr l1 0) σ = some (!isL l n) := by
    obtain ⟨r, er, rfl⟩ : W (S.incr_Solver_may_1 l (.ptr l1 0) σ) fun r => r = !isL l n := by
      have k1 := h.obj
      unfold S.incr_Solver_may_1
      repeat' (with_reducible (first | refine W.bind ?_ | refine W.asI ?_ | refine W.asV ?_ | refine W.fldp ?_ | refine W.nck ?_ | refine W.ldL (Loc.up (by assumption)) (by with_unfolding_all rfl) ?_))
      refine W.to (litsIs_eq (by omega) (by omega)) ?_
      repeat' (with_reducible refine W.ret ?_)
      rfl
    exact er
  rw [e1]
  rfl
/-- What may be added. -/
theorem incMay_w (h : IncG gl σ T li e n C w xc) (hn : Tn σ T) (hn4 : n ≤ 4000) (hc : SlV vIs σ cs x) (hb : ∀ c ∈ cs, ∀ l ∈ c, isL l n = true) (h1 : C.length + cs.length ≤ 20000) (h2 : C.flatten.length + cs.flatten.length ≤ 80000) :
    W (S.incr_Solver_may (.ptr li 0) x σ) fun r => r.1 = .nili ∧ Hle σ r.2 := by
  unfold S.incr_Solver_may
  repeat' (with_reducible refine W.scP ?_)
  refine W.new0 hn fun l1 τ1 _ L1 k1 hn1 => ?_
  replace h := h.hle L1
  have hcu := hc.mono L1
  have ko := h.obj
  repeat' (with_reducible (first | refine W.bind ?_ | refine W.asI ?_ | refine W.asV ?_ | refine W.fldp ?_ | refine W.len (by assumption) ?_ | refine W.nck ?_ | refine W.ldL (Loc.up (by assumption)) (by with_unfolding_all rfl) ?_))
  refine W.mono (P := fun r => r = (.inl ((C.flatten.length + cs.flatten.length : Nat) : Int), τ1)) ?_ fun r hr => ?_
  · refine W.loop cs.length (fun i (z : Int × Int) τ => z = (((C.flatten.length + (cs.take i).flatten.length : Nat) : Int), (i : Int)) ∧ τ = τ1) ⟨by simp, rfl⟩ fun i z τ2 hi hI => ?_
    obtain ⟨rfl, rfl⟩ := hI
    have wr : IntKind.i64.wrap ((i : Int) + 1) = ((i + 1 : Nat) : Int) := by rw [wrapS] <;> omega
    unfold S.incr_Solver_may.b0
    dsimp only
    (with_reducible refine W.cnd (fun hlt => ?_) (fun hlt => ?_) <;> (try simp only [q1, q2, q3, q4, q5, q6, q7, q8, q9, q10, q11, q12, q13, q14, q15, q16, q17, q18, q19, q20, q21, q22, q23, q24, q25, q26, q27, q28, q29, q30, Kd.ty] at hlt) <;> (try (exfalso; omega)))
    · obtain ⟨a, ha⟩ := get_ex (xs := cs) (i := i) (by omega)
      have ham := List.mem_of_getElem? ha
      have hfl := flat_mem ham
      refine W.ixkLS hcu (Hle.refl _) ha fun y hy => ?_
      refine W.bind ?_
      refine W.mono (incMay1_w h hn4 hy (by omega) k1 (fun l hl Rt K => rfl)) fun r hr => ?_
      subst hr
      dsimp only
      refine W.condF (by rw [List.any_eq_false]; intro l hl; simp [hb a ham l hl]) ?_
      repeat' (with_reducible (first | refine W.next ?_ | refine W.len (by assumption) ?_))
      have htk : cs.take (i + 1) = cs.take i ++ [a] := by rw [List.take_add_one, ha]; rfl
      have hle := flat_take_le cs (i + 1)
      rw [htk] at hle ⊢
      rw [List.flatten_append, List.length_append] at hle ⊢
      have he : [a].flatten.length = a.length := by simp
      rw [he] at hle ⊢
      refine ⟨by omega, ?_, rfl⟩
      rw [wr]
      congr 1
      rw [wrapS] <;> omega
    · repeat' (with_reducible refine W.stop ?_)
      have : i = cs.length := by omega
      subst this
      rw [List.take_length]
  · subst hr
    dsimp only
    have hO := h.cl.sl
    refine W.bind ?_
    refine W.mono (P := fun r => r = false) ?_ fun r hr => ?_
    · repeat' (with_reducible (first | refine W.asV ?_ | refine W.fldp ?_ | refine W.len (by assumption) ?_ | refine W.nck ?_ | refine W.ldL (Loc.up (by assumption)) (by with_unfolding_all rfl) ?_))
      have w1 : IntKind.i64.wrap ((C.length : Int) + (cs.length : Int)) = ((C.length + cs.length : Nat) : Int) := by rw [wrapS] <;> omega
      rw [w1]
      refine W.condF (decide_eq_false (by omega)) ?_
      repeat' (with_reducible refine W.ret ?_)
      exact decide_eq_false (by omega)
    subst hr
    refine W.condF rfl ?_
    repeat' (with_reducible refine W.ret ?_)
    exact ⟨rfl, L1⟩
def uI : Nat → Bool := fun j => eI j || j == 36 || j == 38
theorem Hop.eu (H : Hop eI σ T τ T') : Hop uI σ T τ T' := H.sub fun i hi => by simp [uI, hi]
theorem Hop.ou {u : Nat} (H : Hop (only u) σ T τ T') (hu : uI u = true := by rfl) : Hop uI σ T τ T' := H.sub fun i hi => by
  have : i = u := by simpa using hi
  rw [this]; exact hu
theorem Hop.ui (H : Hop uI σ T τ T') : Hop iI σ T τ T' := H.sub fun i hi => by
  simp only [uI, Bool.or_eq_true] at hi
  simp only [iI, eK, eJ, Bool.or_eq_true]
  rcases hi with (h | h) | h
  · exact .inl (.inl (.inl (.inl h)))
  · exact .inl (.inr h)
  · exact .inr h
theorem SlV.rawIs (h : SlV vRaw σ [x] y) (hc : SlV .int σ c x) : SlV vIs σ [c] y := by
  rcases h with ⟨_, q⟩ | ⟨l, off, k, md, us, rfl, g2, g3, g4, g5⟩
  · cases q
  · refine .inr ⟨l, off, k, md, us, rfl, g2, g3, g4, fun i a hi => ?_⟩
    match i, hi with
    | 0, hi => cases hi; exact ⟨x, g5 0 x rfl, hc⟩
    | i + 1, hi => simp at hi
/-- A clause, handed in in a list that is another's. -/
theorem incAddU_w {u : Nat} (hu : uI u = false) (h : IncG gl σ T li e n C w xc) (hn : Tn σ T) (hn4 : n ≤ 4000) (hw : w ≤ 900000000) (hc : SlV .int (σ.at T u) c x) (hb : ∀ l ∈ c, isL l n = true) (h1 : C.length + 1 ≤ 20000) (h2 : C.flatten.length + c.length ≤ 80000) :
    W (S.incr_Solver_Add (.ptr li 0) x σ) fun r => r.1 = .nili ∧ ∃ T' xc', Hop uI σ T r.2 T' ∧ IncG gl r.2 T' li e n (C ++ [c]) (w + 1) xc' := by
  simp only [uI, Bool.or_eq_false_iff, beq_eq_false_iff_ne] at hu
  obtain ⟨⟨hu1, hu2⟩, hu3⟩ := hu
  have hu4 : (only 36) u = false := by simp [hu2]
  have hu5 : (only 38) u = false := by simp [hu3]
  unfold S.incr_Solver_Add
  refine W.scalS hc.up ?_
  refine W.new1 (v := vRaw) hn x rfl (fun τ L => rfl) fun l1 τ1 _ L1 hcs hn => ?_
  replace h := h.hle L1
  replace hc := hc.hle L1
  refine W.bind ?_
  unfold S.incr_Solver_adds
  refine W.bind ?_
  refine W.mono (incMay_w h hn hn4 (hcs.up.rawIs hc.up) (fun d hd => by
    have : d = c := by simpa using hd
    rw [this]; exact hb) (by simpa using h1) (by simpa using h2)) fun r hr => ?_
  obtain ⟨r, τ2⟩ := r
  obtain ⟨er, L2⟩ := hr
  dsimp only at er L2 ⊢
  subst er
  replace h := h.hle L2
  replace hc := hc.hle L2
  replace hcs := hcs.hle L2
  replace hn := hn.mono L2
  refine W.fnil (f := none) rfl (W.condF rfl ?_)
  have hcsu := hcs.up
  repeat' (with_reducible (first | refine W.bind ?_ | refine W.len (by assumption) ?_))
  refine W.mono (P := fun r => ∃ T' xc', Hop uI τ2 T r.2 T' ∧ IncG gl r.2 T' li e n (C ++ [c]) (w + 1) xc') ?_ fun r hr => ?_
  · refine W.loop 1 (fun i (z : Int) τ => z = (i : Int) ∧ ∃ T' xc', Hop uI τ2 T τ T' ∧ SlV vRaw (τ.at T' 0) [x] (.sl l1 0 1 none) ∧ SlV .int (τ.at T' u) c x ∧ IncG gl τ T' li e n (C ++ [c].take i) (w + i) xc') ⟨rfl, T, xc, Hop.refl hn, hcs, hc, by simpa using h⟩ fun i z τ3 hi hI => ?_
    obtain ⟨rfl, T3, xc3, HH, hcs, hy, h⟩ := hI
    have wr : IntKind.i64.wrap ((i : Int) + 1) = ((i + 1 : Nat) : Int) := by rw [wrapS] <;> omega
    obtain ⟨k1, E, hO⟩ := h
    unfold S.incr_Solver_adds.b0
    by_cases hi0 : i = 0
    · subst hi0
      refine W.condT rfl ?_
      refine W.ixV (i := 0) hcs.up rfl ?_
      have hyu := hy.up
      repeat' (with_reducible (first | refine W.bind ?_ | refine W.asV ?_ | refine W.fldp ?_ | refine W.nck ?_ | refine W.ldL (Loc.up (by assumption)) (by with_unfolding_all rfl) ?_))
      refine W.mono (enAddE_w E HH.tn hn4 (by omega) hy (by omega) hb) fun r hr => ?_
      obtain ⟨r, τ4⟩ := r
      obtain ⟨_, T4, H4, E⟩ := hr
      dsimp only at H4 E ⊢
      have hn := HH.tn
      replace HH := HH.trans H4.eu
      replace hy := hy.hop H4 hu1
      replace k1 := k1.hop H4
      replace hO := hO.hop H4
      replace hcs := hcs.hop H4
      replace hn := H4.tn
      repeat' (with_reducible (first | refine W.bind ?_ | refine W.asV ?_ | refine W.fldp ?_ | refine W.nck ?_ | refine W.ldL (Loc.up (by assumption)) (by with_unfolding_all rfl) ?_))
      refine W.mono (cloneT hy hn (by omega)) fun r hr => ?_
      obtain ⟨yc, τ5⟩ := r
      obtain ⟨L5, hA5, _⟩ := hr
      dsimp only at L5 hA5 ⊢
      have hyc : SlV .int (τ5.at T4 0) c yc := hA5.at0 fun k hk => hn.z k hk
      replace HH := HH.hle L5
      replace E := E.hle L5
      replace k1 := k1.hle L5
      replace hO := hO.hle L5
      replace hcs := hcs.hle L5
      replace hy := hy.hle L5
      replace hn := hn.mono L5
      repeat' (with_reducible (first | refine W.asV ?_ | refine W.chk rfl ?_ | refine W.scalS (by assumption) ?_ | refine W.ldL (Loc.up (by assumption)) (by with_unfolding_all rfl) ?_))
      have hlC : (C ++ List.take 0 [c]) = C := by simp
      rw [hlC] at E hO k1
      refine W.ol_push hO hn hyc (by decide) (by omega) fun x' τ6 T6 hO H6 => ?_
      replace HH := HH.trans H6.ou
      replace E := E.hop H6
      replace hy := hy.hop H6 hu5
      replace k1 := k1.hop H6
      replace hcs := hcs.hop H6
      replace hn := H6.tn
      have hOs := hO.sl
      repeat' (with_reducible (first | refine W.fldp ?_ | refine W.scalS (by assumption) ?_ | refine W.nck ?_))
      refine W.stT k1 hn (Nat.le_of_ble_eq_true (by rfl)) fun τ7 H7 k1 hnτ7 => ?_
      replace HH := HH.trans H7.ou
      replace E := E.hop H7
      replace hy := hy.hop H7 hu4
      replace hO := hO.hop H7
      replace hcs := hcs.hop H7
      replace hn := H7.tn
      have hyu := hy.up
      repeat' (with_reducible (first | refine W.asI ?_ | refine W.fldp ?_ | refine W.len (by assumption) ?_ | refine W.nck ?_ | refine W.ldL (Loc.up (by assumption)) (by with_unfolding_all rfl) ?_))
      have wl : IntKind.i64.wrap ((C.flatten.length : Int) + (c.length : Int)) = ((C ++ [c]).flatten.length : Int) := by
        have e : (C ++ [c]).flatten.length = C.flatten.length + c.length := by rw [List.flatten_append, List.length_append]; simp
        rw [e]
        rw [wrapS] <;> omega
      rw [wl]
      refine W.stT k1 hn (Nat.le_of_ble_eq_true (by rfl)) fun τ8 H8 k1 hnτ8 => ?_
      replace HH := HH.trans H8.ou
      replace E := E.hop H8
      replace hy := hy.hop H8 hu4
      replace hO := hO.hop H8
      replace hcs := hcs.hop H8
      replace hn := H8.tn
      repeat' (with_reducible refine W.next ?_)
      exact ⟨by omega, wr, T6, x', HH, hcs, hy, k1, E, hO⟩
    · have hi1 : i = 1 := by omega
      subst hi1
      refine W.condF rfl ?_
      repeat' (with_reducible refine W.stop ?_)
      exact ⟨T3, xc3, HH, k1, E, hO⟩
  · obtain ⟨r, τ3⟩ := r
    obtain ⟨T3, xc3, HH, h⟩ := hr
    repeat' (with_reducible refine W.ret ?_)
    exact ⟨rfl, T3, xc3, (Hop.of ‹Tn σ T› (L1.trans L2)).trans HH, h⟩
/-- A clause. -/
theorem incAdd_w (h : IncG gl σ T li e n C w xc) (hn : Tn σ T) (hn4 : n ≤ 4000) (hw : w ≤ 900000000) (hc : SlV .int (σ.at T 0) c x) (hb : ∀ l ∈ c, isL l n = true) (h1 : C.length + 1 ≤ 20000) (h2 : C.flatten.length + c.length ≤ 80000) :
    W (S.incr_Solver_Add (.ptr li 0) x σ) fun r => r.1 = .nili ∧ ∃ T' xc', Hop iI σ T r.2 T' ∧ IncG gl r.2 T' li e n (C ++ [c]) (w + 1) xc' :=
  (incAddU_w (u := 0) rfl h hn hn4 hw hc hb h1 h2).mono fun r hr => ⟨hr.1, hr.2.elim fun T' q => q.elim fun xc' q => ⟨T', xc', q.1.ui, q.2⟩⟩
end
end Go.Proofs.YtekehmgfedmflaaDoor.A

/- The solver that is asked again: the laws' first examples; made of clauses. -/
namespace Go.Proofs.YtekehmgfedmflaaDoor.A
open Go
section
variable {σ τ : Heap} {T T' : Tg} {e : EnP} {n k id t li : Nat} {x y xc xl : AVal} {A c l : List Int} {C cs : List (List Int)} {w : Nat} {sc : (List Int × List Int × List Int × List Int) × Int × Int}
theorem Hop.fi (H : Hop frL σ T τ T') : Hop iI σ T τ T' := H.sub fun i hi => by simp [frL, iI, eK] at hi ⊢; omega
theorem first19_w (hn : Tn σ T) : W (S.skolemlaw19_first σ) fun r => r.1 = true ∧ ∃ T', Hop iI σ T r.2 T' := by
  unfold S.skolemlaw19_first
  refine W.bind ?_
  refine W.mono (incNew_w false (sc := (([], [], [], []), 0, 0)) ⟨_, _, _, _, rfl, .inl ⟨rfl, rfl⟩, .inl ⟨rfl, rfl⟩, .inl ⟨rfl, rfl⟩, .inl ⟨rfl, rfl⟩⟩ hn ⟨by simp, by simp, by simp, by simp⟩ (Int.le_refl _)) fun r hr => ?_
  obtain ⟨r, τ1⟩ := r
  obtain ⟨T1, li, e, xc, er, H1, h⟩ := hr
  dsimp only at er H1 h ⊢
  subst er
  refine W.bind ?_
  refine W.condT (y := some (false, τ1)) rfl ?_
  refine W.condT rfl ?_
  refine W.bind ?_
  refine W.mono (fresh_w (m := 2) h H1.tn (by omega) (by omega)) fun r hr => ?_
  obtain ⟨r, τ2⟩ := r
  obtain ⟨T2, er, H2, h⟩ := hr
  dsimp only at er H2 h ⊢
  subst er
  refine W.condT rfl ?_
  refine W.bind ?_
  refine W.to (vars_w h) ?_
  refine W.ret ?_
  refine W.condT rfl ?_
  refine W.bind ?_
  refine W.mono (fresh0_w (m := 0) h (by omega) (by omega)) fun r hr => ?_
  subst hr
  repeat' (with_reducible refine W.ret ?_)
  exact ⟨rfl, T2, H1.trans H2⟩
end
end Go.Proofs.YtekehmgfedmflaaDoor.A

/- SatAssumes: a round's parts. -/
namespace Go.Proofs.YtekehmgfedmflaaDoor.A
open Go
section
variable {σ τ : Heap} {T T' : Tg} {e : EnP} {n k id t i : Nat} {x y xm xa x0 p : AVal} {A c l core : List Int} {C cs ass : List (List Int)} {w : Nat} {sc : (List Int × List Int × List Int × List Int) × Int × Int} {gl : Bool}
def sJ : Nat → Bool := fun j => j == 38 || j == 39
theorem Hop.b8 (H : Hop (only 38) σ T τ T') : Hop sJ σ T τ T' := H.sub fun i hi => by simp [sJ] at hi ⊢; omega
theorem Hop.b9 (H : Hop (only 39) σ T τ T') : Hop sJ σ T τ T' := H.sub fun i hi => by simp [sJ] at hi ⊢; omega
end
end Go.Proofs.YtekehmgfedmflaaDoor.A

/- Lists that are turned outside: copies that may be written into; all that was added. -/
namespace Go.Proofs.YtekehmgfedmflaaDoor.A
open Go
theorem sameClauses_eq {σ : Heap} {xs ys : List (List Int)} {x y : AVal} (hx : SlV vIs σ xs x) (hy : SlV vIs σ ys y) (hb : xs.length ≤ 1000000) (hs : ∀ a ∈ xs, a.length ≤ 1000000) :
    S.skolemref_SameClauses x y σ = some (decide (xs = ys)) := by
  unfold S.skolemref_SameClauses
  rw [hx.len, hy.len]
  by_cases hl : xs.length = ys.length
  · have hc : ((xs.length : Int) != (ys.length : Int)) = false := by simp [hl]
    rw [hc]
    simp only [cond_false]
    obtain ⟨r, e1, e2⟩ := loopP_inv (f := S.skolemref_SameClauses.b0 x y σ) (x := (0 : Int)) xs.length (fun i z => z = (i : Int) ∧ ∀ j, j < i → xs[j]? = ys[j]?) (fun r => ((r = .inl () ∧ xs = ys) ∨ (r = .inr false ∧ xs ≠ ys)))
      (fun i z hi hI => by
        obtain ⟨rfl, hI⟩ := hI
        obtain ⟨a, ha⟩ : ∃ a, xs[i]? = some a := ⟨_, List.getElem?_eq_getElem hi⟩
        obtain ⟨b, hb⟩ : ∃ b, ys[i]? = some b := ⟨_, List.getElem?_eq_getElem (by omega)⟩
        obtain ⟨p, us, c2, ⟨u, rfl, c3⟩, c1⟩ := hx.ix ha
        obtain ⟨q, ws, d2, ⟨w, rfl, d3⟩, d1⟩ := hy.ix hb
        have hd : decide ((i : Int) < (xs.length : Int)) = true := by simp; omega
        have w2 : IntKind.i64.wrap ((i : Int) + 1) = ((i + 1 : Nat) : Int) := by rw [wrapS] <;> omega
        have key : S.skolemref_SameClauses.b0 x y σ (i : Int) = cond (!(decide (a = b))) (some (.inr (.inr false))) (some (.inl ((i + 1 : Nat) : Int))) := by
          unfold S.skolemref_SameClauses.b0
          rw [hx.len, hd]
          simp only [cond_true]
          rw [show ixA σ x 1 = ixA σ x vIs.sz from rfl, show ixA σ y 1 = ixA σ y vIs.sz from rfl, c1 (Hle.refl _), c2.ld]
          simp only [asK]
          rw [d1 (Hle.refl _), d2.ld]
          simp only [asK]
          rw [sameInts_eq c3 d3 (hs a (List.mem_of_getElem? ha)), w2]
          rfl
        rw [key]
        by_cases hab : a = b
        · subst hab
          refine .inl ⟨_, by simp, rfl, fun j hj => ?_⟩
          rcases Nat.lt_succ_iff_lt_or_eq.1 hj with hj | rfl
          · exact hI j hj
          · rw [ha, hb]
        · refine .inr ⟨.inr false, by simp [hab], .inr ⟨rfl, fun e => ?_⟩⟩
          subst e; rw [ha] at hb; cases hb; exact hab rfl)
      (fun z hI => by
        obtain ⟨rfl, hI⟩ := hI
        refine ⟨.inl (), ?_, .inl ⟨rfl, ?_⟩⟩
        · unfold S.skolemref_SameClauses.b0
          have hd : decide ((xs.length : Int) < (xs.length : Int)) = false := by simp
          rw [hx.len, hd]; rfl
        · apply List.ext_getElem? fun j => ?_
          by_cases hj : j < xs.length
          · exact hI j hj
          · rw [List.getElem?_eq_none (by omega), List.getElem?_eq_none (by omega)]) ⟨rfl, fun j hj => by omega⟩
    rw [e1]
    simp only [Option.bind_some]
    rcases e2 with ⟨rfl, e⟩ | ⟨rfl, e⟩
    · simp [e]
    · simp [e]
  · have hc : ((xs.length : Int) != (ys.length : Int)) = true := by simp; omega
    rw [hc]
    have : xs ≠ ys := fun e => hl (by rw [e])
    simp [this]

section
variable {σ τ : Heap} {T T' : Tg} {e : EnP} {n k t li m l : Nat} {x y z xc : AVal} {A c : List Int} {C cs : List (List Int)} {w : Nat} {ns : List Nat} {ws : List AVal} {I : Nat → Bool} {s : PS} {hs : List Int} {ln : List (Int × Int)} {lg : List (Bool × List Int)} {since least : Int} {h : PH} {xs xl xg : AVal} {conf bump most : Int} {sv : List Int} {gl : Bool} {ws' : List (Bool × AVal)}
/-- So many cells that may be written. -/
def Wr (σ : Heap) (T : Tg) (t m : Nat) (z : AVal) : Prop := (z = .nils ∧ m = 0) ∨ ∃ l off c vs, z = .sl l off m c ∧ l < σ.next ∧ T l = t ∧ σ.get l = some (.cells .rw 1 vs) ∧ off + m ≤ vs.length
def WrF (σ : Heap) (T : Tg) (t : Nat) (ns : List Nat) (ws : List AVal) : Prop := ws.length = ns.length ∧ ∀ (i : Nat) m z, ns[i]? = some m → ws[i]? = some z → Wr σ T t m z
theorem Wr.hop (h : Wr σ T t m z) (H : Hop I σ T τ T') (hI : I t = false) : Wr τ T' t m z := by
  rcases h with h | ⟨l, off, c, vs, e, h1, h2, h3, h4⟩
  · exact .inl h
  · subst h2
    exact .inr ⟨l, off, c, vs, e, Nat.lt_of_lt_of_le h1 H.next, H.tag l h1 hI, H.get l _ h1 hI h3, h4⟩
theorem WrF.hop (h : WrF σ T t ns ws) (H : Hop I σ T τ T') (hI : I t = false := by rfl) : WrF τ T' t ns ws := ⟨h.1, fun i m z h1 h2 => (h.2 i m z h1 h2).hop H hI⟩
/-- A new one. -/
theorem Acc.wr {xs : List Int} (h : Acc .int σ.next τ xs z) (hn : Tn σ T) (L : Hle σ τ) : ∃ T', Hop (only t) σ T τ T' ∧ Wr τ T' t xs.length z ∧ ∀ m z', Wr σ T t m z' → Wr τ T' t m z' := by
  rcases h with ⟨rfl, rfl⟩ | ⟨l, vs, rfl, h1, h2, h3, h4, h5⟩
  · exact ⟨T, Hop.of hn L, .inl ⟨rfl, rfl⟩, fun m z' h => h.hop (I := fun _ => false) (Hop.of hn L) rfl⟩
  · refine ⟨T.upd l t, hop_tag hn L h1 h2, .inr ⟨l, 0, none, vs, rfl, h2, upd_self, h3, by simpa [Vw.int] using h4⟩, fun m z' h => ?_⟩
    rcases h with h | ⟨l', off, c, us, e, g1, g2, g3, g4⟩
    · exact .inl h
    · exact .inr ⟨l', off, c, us, e, Nat.lt_of_lt_of_le g1 L.next, by rw [upd_ne (by omega)]; exact g2, L.get _ _ g1 g3, g4⟩
theorem EnH.hopG (E : EnH σ T e n s hs ln lg since least h xs xl xg conf bump most sv ws') (H : Hop I σ T τ T') (hJ : ∀ j, I j = true → (15 ≤ j ∧ j ≤ 29) ∨ (35 ≤ j ∧ j ≤ 49)) : EnH τ T' e n s hs ln lg since least h xs xl xg conf bump most sv ws' := by
  have hf : ∀ j, ¬((15 ≤ j ∧ j ≤ 29) ∨ (35 ≤ j ∧ j ≤ 49)) → I j = false := fun j hj => by
    cases e : I j
    · rfl
    · exact absurd (hJ j e) hj
  exact ⟨E.obj.hop H (hf _ (by omega)), E.prop.hop H (fun j hj => hf j (by simp only [pI, Bool.or_eq_true, Bool.and_eq_true, decide_eq_true_eq] at hj; omega)), E.heap.hop H (fun j hj => hf j (by simp only [hI, Bool.and_eq_true, decide_eq_true_eq] at hj; omega)), E.pace.hop H (hf _ (by omega)) (hf _ (by omega)), E.most, E.sav.hop H (hf _ (by omega)), E.svl, E.lrn.hop H (hf _ (by omega)), E.log.hop H (hf _ (by omega)), E.all.hop H (hf _ (by omega))⟩
theorem En.hopG (E : En gl σ T e n C w) (H : Hop I σ T τ T') (hJ : ∀ j, I j = true → (15 ≤ j ∧ j ≤ 29) ∨ (35 ≤ j ∧ j ≤ 49)) : En gl τ T' e n C w := by
  obtain ⟨s, hs, ln, lg, since, least, ⟨h, xs, xl, xg, conf, bump, most, sv, ws, E⟩, r⟩ := E
  exact ⟨s, hs, ln, lg, since, least, ⟨h, xs, xl, xg, conf, bump, most, sv, ws, E.hopG H hJ⟩, r⟩
theorem IncG.hopG (h : IncG gl σ T li e n C w xc) (H : Hop I σ T τ T') (hJ : ∀ j, I j = true → (15 ≤ j ∧ j ≤ 29) ∨ (35 ≤ j ∧ j ≤ 49)) (h1 : I 36 = false := by rfl) (h2 : I 38 = false := by rfl) (h0 : I 0 = false := by rfl) : IncG gl τ T' li e n C w xc :=
  ⟨h.obj.hop H h1, h.en.hopG H hJ, h.cl.hop H h2 h0⟩
/-- All that was added, in lists that stay. -/
theorem incAllS_w (h : IncG gl σ T li e n C w xc) (hn : Tn σ T) (hb : C.length ≤ 100000) (hcl : ∀ c ∈ C, c.length ≤ 1000000) :
    W (S.incr_Solver_All (.ptr li 0) σ) fun r => ∃ T' y, r.1 = .agg [.int .i64 n, y] ∧ Hop (only 39) σ T r.2 T' ∧ SlV vIs (r.2.at T' 0) C y := by
  unfold S.incr_Solver_All
  refine W.newT 39 hn fun l1 τ1 T1 hl1 H1 k39 hnτ1 => ?_
  obtain ⟨k1, E, hO⟩ := h.hop H1
  have hu := hO.sl
  repeat' (with_reducible (first | refine W.bind ?_ | refine W.asI ?_ | refine W.asV ?_ | refine W.fldp ?_ | refine W.nck ?_ | refine W.ldL (Loc.up (by assumption)) (by with_unfolding_all rfl) ?_))
  refine W.mono (litsClone_w hu (by omega) hcl) fun r hr => ?_
  obtain ⟨y, τ2⟩ := r
  obtain ⟨L2, hA⟩ := hr
  dsimp only at L2 hA ⊢
  have hn1 := H1.tn
  have hy := hA.atF fun k hk => hn1.z k hk
  replace k1 := k1.hle L2
  replace k39 := k39.hle L2
  have hn := hn1.mono L2
  have hyu := hy.up
  repeat' (with_reducible (first | refine W.asI ?_ | refine W.chk rfl ?_ | refine W.scalS (by assumption) ?_ | refine W.ldL (Loc.up (by assumption)) (by with_unfolding_all rfl) ?_))
  refine W.stT k39 hn (Nat.le_of_ble_eq_true (by rfl)) fun τ3 H3 k39 hnτ3 => ?_
  repeat' (with_reducible (first | refine W.ret ?_ | refine W.ldGL (Loc.up (by assumption)) (Nat.le_of_ble_eq_true (by with_unfolding_all rfl)) ?_))
  exact ⟨T1, y, rfl, (H1.hle L2).trans H3, hy.hop H3⟩
end
end Go.Proofs.YtekehmgfedmflaaDoor.A

/- IncrOwn: the law. -/
namespace Go.Proofs.YtekehmgfedmflaaDoor.A
open Go
section
variable {σ τ : Heap} {T T' : Tg} {t : Nat} {x y : AVal} {cs : List (List Int)} {sc : (List Int × List Int × List Int × List Int) × Int × Int}
theorem OL.freeze (h : OL σ T t cs x) (hn : Tn σ T) (ht : t ≠ 0) : ∃ T', Hop (only t) σ T σ T' ∧ SlV vIs (σ.at T' 0) cs x := by
  obtain ⟨ws, h1, h2, h3⟩ := h
  have h0 : (only t) 0 = false := by simp; omega
  rcases h1 with ⟨rfl, rfl⟩ | ⟨l, off, c, us, rfl, g1, g2, g3, g4, g5⟩
  · exact ⟨T, Hop.refl hn, .inl ⟨rfl, List.eq_nil_of_length_eq_zero (by simpa using h2.symm)⟩⟩
  · obtain ⟨e1, e2⟩ := at_get.1 g2
    have g1 : l < σ.next := g1
    have H : Hop (only t) σ T σ (T.upd l 0) := ⟨Nat.le_refl _, ⟨fun k hk => by rw [upd_ne (by omega)]; exact hn.z k hk⟩, fun k _ hI => upd_ne (fun e => by subst e; simp [only, e1] at hI), fun k o _ _ hg => hg⟩
    refine ⟨T.upd l 0, H, .inr ⟨l, off, c, .rw, us, by rw [h2], g1, at_of upd_self e2, by rw [← h2]; exact g4, fun i a hi => ?_⟩⟩
    obtain ⟨w, q1', q2'⟩ := h3 i a hi
    exact ⟨w, g5 i w q1', q2'.hop H h0⟩
end
end Go.Proofs.YtekehmgfedmflaaDoor.A

/- IncrSwitches: the law. -/
namespace Go.Proofs.YtekehmgfedmflaaDoor.A
open Go
theorem SlV.toRaw {σ : Heap} {ds : List (List Int)} {y : AVal} (h : SlV vIs σ ds y) : ∃ vs, vs.length = ds.length ∧ SlV vRaw σ vs y ∧ ∀ (i : Nat) c, ds[i]? = some c → ∃ w, vs[i]? = some w ∧ SlV .int σ c w := by
  rcases h with ⟨rfl, rfl⟩ | ⟨l, off, k, md, us, rfl, g2, g3, g4, g5⟩
  · exact ⟨[], rfl, .inl ⟨rfl, rfl⟩, fun i c h => by simp at h⟩
  · have g4 : (off + ds.length) * 1 ≤ us.length := g4
    have hl : ((us.drop off).take ds.length).length = ds.length := by simp; omega
    refine ⟨(us.drop off).take ds.length, hl, .inr ⟨l, off, k, md, us, by rw [hl], g2, g3, by rw [hl]; exact g4, fun i a hi => ?_⟩, fun i c hi => ?_⟩
    · show List.take 1 (List.drop ((off + i) * 1) us) = [a]
      rw [List.getElem?_take] at hi
      split at hi
      · rw [List.getElem?_drop] at hi
        rw [Nat.mul_one, List.take_one, List.head?_drop, hi]; rfl
      · cases hi
    · obtain ⟨w, e1, e2⟩ := g5 i c hi
      have e1 : List.take 1 (List.drop ((off + i) * 1) us) = [w] := e1
      have hil := get_len hi
      refine ⟨w, ?_, e2⟩
      rw [List.getElem?_take_of_lt hil, List.getElem?_drop]
      rw [Nat.mul_one, List.take_one, List.head?_drop] at e1
      cases hu : us[off + i]? with
      | none => rw [hu] at e1; cases e1
      | some v => rw [hu] at e1; cases e1; rfl
section
variable {σ τ : Heap} {T T' : Tg} {e : EnP} {t n li : Nat} {x y xc : AVal} {cs ds C : List (List Int)} {w : Nat}
theorem W.ol_app {R : Type} {Q : R → Prop} (h : OL σ T t cs x) (hn : Tn σ T) (hy : SlV vIs (σ.at T 0) ds y) (ht : t ≠ 0) (hb : cs.length + ds.length ≤ 1000000) {K : AVal → Heap → Option R}
    (k : ∀ x' τ T', OL τ T' t (cs ++ ds) x' → Hop (only t) σ T τ T' → W (K x' τ) Q) : W (YtekehmgfedmflaaDoor.A.appS σ 1 24 x y K) Q := by
  obtain ⟨ws, h1, h2, h3⟩ := h
  obtain ⟨vs, g1, g2, g3⟩ := hy.toRaw
  have h0 : (only t) 0 = false := by simp; omega
  refine W.own_app (bytes := 24) vRaw_flat h1 hn g2.up (by omega) (by omega) fun x' τ T' h1' H => ?_
  refine k x' τ T' ⟨_, h1', by simp [h2, g1], fun i d hi => ?_⟩ H
  by_cases hlt : i < cs.length
  · rw [List.getElem?_append_left hlt] at hi
    obtain ⟨w, e1, e2⟩ := h3 i d hi
    exact ⟨w, by rw [List.getElem?_append_left (by omega)]; exact e1, e2.hop H h0⟩
  · rw [List.getElem?_append_right (by omega)] at hi
    obtain ⟨w, e1, e2⟩ := g3 _ d hi
    exact ⟨w, by rw [List.getElem?_append_right (by omega), h2]; exact e1, e2.hop H h0⟩
end
end Go.Proofs.YtekehmgfedmflaaDoor.A

/- IncrSwitches: the law, whole. -/
namespace Go.Proofs.YtekehmgfedmflaaDoor.A
open Go
section
variable {σ τ : Heap} {T T' : Tg} {e : EnP} {t n li i : Nat} {x y xc xg : AVal} {cs ds C : List (List Int)} {w : Nat} {G : List (List (List Int))} {g : List (List Int)} {I : Nat → Bool} {sc : (List Int × List Int × List Int × List Int) × Int × Int}
/-- Groups of clauses. -/
def GrI (σ : Heap) (T : Tg) (x : AVal) (G : List (List (List Int))) : Prop := ∃ ys, SlV vRaw (σ.at T 0) ys x ∧ ∀ (i : Nat) g, G[i]? = some g → ∃ y, ys[i]? = some y ∧ SlV vIs (σ.at T 0) g y
theorem GrI.hop (h : GrI σ T x G) (H : Hop I σ T τ T') (h0 : I 0 = false := by rfl) : GrI τ T' x G := by
  obtain ⟨ys, h1, h2⟩ := h
  exact ⟨ys, h1.hop H h0, fun i g hg => (h2 i g hg).imp fun y hy => ⟨hy.1, hy.2.hop H h0⟩⟩
theorem GrI.hle (h : GrI σ T x G) (L : Hle σ τ) : GrI τ T x G := by
  obtain ⟨ys, h1, h2⟩ := h
  exact ⟨ys, h1.hle L, fun i g hg => (h2 i g hg).imp fun y hy => ⟨hy.1, hy.2.hle L⟩⟩
end
end Go.Proofs.YtekehmgfedmflaaDoor.A

/- The document's values and closure. -/
namespace Go.Proofs.YtekehmgfedmflaaDoor.A
open Go
/-! ### Closure -/
section
variable {vars : Nat} {C : List (List Int)} {s vs c : List Int}
/-- Values that all follow. -/
structure Snd (vars : Nat) (C : List (List Int)) (s vs : List Int) : Prop where
  ok : Vok vs
  len : vs.length = vars + 1
  snd : ∀ l, val vs l = 1 → Der C s l
theorem Snd.set (h : Snd vars C s vs) {l : Int} (h0 : l ≠ 0) (hl : l.natAbs ≤ vars) (hv : val vs l ≠ 2) (hd : Der C s l) : Snd vars C s (setV vs l) ∧ Vle vs (setV vs l) ∧ val (setV vs l) l = 1 := by
  have hlt : l.natAbs < vs.length := by rw [h.len]; omega
  have hs := val_set h0 hlt
  refine ⟨⟨h.ok.set l, by rw [setV_len, h.len], fun k hk => ?_⟩, fun k hk => ?_, by rw [hs, if_pos rfl]⟩
  · rw [hs] at hk
    split at hk
    · rename_i e; rw [e]; exact hd
    · split at hk
      · cases hk
      · exact h.snd k hk
  · rw [hs]
    split
    · rfl
    · split
      · rename_i e; subst e
        exact absurd ((val_neg1 h.ok).1 hk) hv
      · exact hk
end
section
variable {T : Tg} {l vars : Nat} {x xC : AVal} {C : List (List Int)} {s : List Int}
end
end Go.Proofs.YtekehmgfedmflaaDoor.A

/- The document's base of clauses. -/
namespace Go.Proofs.YtekehmgfedmflaaDoor.A
open Go
/-! ### The base -/
structure RB (σ : Heap) (T : Tg) (l vars : Nat) (C : List (List Int)) : Prop where
  ex : ∃ v ws, Loc (σ.at T 1) l [.int .i64 vars, v] ∧ SlV vRaw (σ.at T 0) ws v ∧ AllV σ T C ws
  ok : ∀ c ∈ C, rightC vars c
  vl : vars ≤ 4000
  cl : C.length ≤ 900000
  ll : ∀ c ∈ C, c.length ≤ 400000
section
variable {σ τ : Heap} {T T' : Tg} {l vars : Nat} {C : List (List Int)} {c : List Int} {x : AVal}
theorem RB.hle (h : RB σ T l vars C) (L : Hle σ τ) : RB τ T l vars C := by
  obtain ⟨⟨v, ws, h1, h2, h3⟩, a, b, d, e⟩ := h
  exact ⟨⟨v, ws, h1.hle L, h2.hle L, h3.hle L⟩, a, b, d, e⟩
theorem RB.hop {I : Nat → Bool} (h : RB σ T l vars C) (H : Hop I σ T τ T') (h0 : I 0 = false := by rfl) (h1 : I 1 = false := by rfl) : RB τ T' l vars C := by
  obtain ⟨⟨v, ws, k1, k2, k3⟩, a, b, d, e⟩ := h
  exact ⟨⟨v, ws, k1.hop H h1, k2.hop H h0, k3.hop H h0⟩, a, b, d, e⟩
theorem AllV.at {ws : List AVal} {v : AVal} (h : AllV σ T C ws) (hv : SlV vRaw (σ.at T 0) ws v) : SlV A.vIs (σ.at T 0) C v := slIs_of hv h.1 h.2
theorem AllV.scal {ws : List AVal} (h : AllV σ T C ws) : ∀ w ∈ ws, ∀ {R : Type} (X : Option R), A.scal w X = X := fun w hw R X => by
  obtain ⟨i, hi, e⟩ := List.getElem_of_mem hw
  obtain ⟨c, hc⟩ : ∃ c, C[i]? = some c := ⟨_, List.getElem?_eq_getElem (by rw [← h.1]; exact hi)⟩
  obtain ⟨w', h1, h2⟩ := h.2 i c hc
  rw [List.getElem?_eq_getElem hi, e] at h1
  cases h1
  exact h2.scal X
end
end Go.Proofs.YtekehmgfedmflaaDoor.A

/- IncrSolves: its parts. -/
namespace Go.Proofs.YtekehmgfedmflaaDoor.A
open Go
section
variable {σ τ : Heap} {T T' : Tg} {e : EnP} {n k id t li : Nat} {x y xc xl : AVal} {A c l : List Int} {C cs : List (List Int)} {w : Nat} {gl : Bool} {s : PS} {hs : List Int} {ln : List (Int × Int)} {lg : List (Bool × List Int)} {since least : Int} {sc : (List Int × List Int × List Int × List Int) × Int × Int} {r : AVal × AVal} {I : Nat → Bool}
theorem EnL.off (L : EnL gl n C s hs ln lg since least w) : EnL false n C s hs ln lg since least w := ⟨L.si, L.hp, L.lnI, L.lnN, L.orI, L.snd, L.cl, (fun h => by cases h), L.z1, L.z2, L.z3, L.z4, L.z5, L.z6⟩
/-- A solver, its log told. -/
structure IncE (σ : Heap) (T : Tg) (li : Nat) (e : EnP) (n : Nat) (C : List (List Int)) (w : Nat) (xc : AVal) (lg : List (Bool × List Int)) : Prop where
  obj : Loc (σ.at T 36) li [.ptr e.le 0, .int .i64 n, xc, .int .i64 (C.flatten.length : Int)]
  en : ∃ s hs ln since least, EnX σ T e n s hs ln lg since least ∧ EnL false n C s hs ln lg since least w ∧ s.marks = []
  cl : OL σ T 38 C xc
theorem IncE.hop {u : Nat} (h : IncE σ T li e n C w xc lg) (H : Hop (only u) σ T τ T') (h1 : (only u) 36 = false := by rfl) (h2 : (only u) 38 = false := by rfl) (h0 : (only u) 0 = false := by rfl) (ht : (decide (15 ≤ u) && decide (u ≤ 29)) || (decide (35 ≤ u) && decide (u ≤ 49)) = true := by rfl) : IncE τ T' li e n C w xc lg := by
  obtain ⟨k1, ⟨s, hs, ln, since, least, g1, g2, g3⟩, k3⟩ := h
  exact ⟨k1.hop H h1, ⟨s, hs, ln, since, least, g1.hopE H ht, g2, g3⟩, k3.hop H h2 h0⟩
theorem IncE.hle (h : IncE σ T li e n C w xc lg) (L : Hle σ τ) : IncE τ T li e n C w xc lg := by
  obtain ⟨k1, ⟨s, hs, ln, since, least, g1, g2, g3⟩, k3⟩ := h
  exact ⟨k1.hle L, ⟨s, hs, ln, since, least, g1.hle L, g2, g3⟩, k3.hle L⟩
theorem SoR.hop (h : SoR σ T n C A lg r) (H : Hop I σ T τ T') (h0 : I 0 = false := by rfl) : SoR τ T' n C A lg r := by
  rcases h with ⟨y, M, e, h1, h2⟩ | ⟨y, core, lg0, e, h1, h2⟩
  · exact .inl ⟨y, M, e, h1.hop H h0, h2⟩
  · exact .inr ⟨y, core, lg0, e, h1.hop H h0, h2⟩
theorem SoR.hle (h : SoR σ T n C A lg r) (L : Hle σ τ) : SoR τ T n C A lg r := by
  rcases h with ⟨y, M, e, h1, h2⟩ | ⟨y, core, lg0, e, h1, h2⟩
  · exact .inl ⟨y, M, e, h1.hle L, h2⟩
  · exact .inr ⟨y, core, lg0, e, h1.hle L, h2⟩
theorem SoR.agg (h : SoR σ T n C A lg r) : r.2 = .nili ∧ ∃ b u v, r.1 = .agg [.bool b, u, v] := by
  rcases h with ⟨y, M, rfl, _⟩ | ⟨y, core, _, rfl, _⟩
  · exact ⟨rfl, _, _, _, rfl⟩
  · exact ⟨rfl, _, _, _, rfl⟩
def vI : Nat → Bool := fun j => iI j || j == 40
theorem Hop.iv (H : Hop iI σ T τ T') : Hop vI σ T τ T' := H.sub fun i hi => by simp [vI, hi]
theorem Hop.ov {u : Nat} (H : Hop (only u) σ T τ T') (hu : vI u = true := by rfl) : Hop vI σ T τ T' := H.sub fun i hi => by
  have : i = u := by simpa using hi
  rw [this]; exact hu
theorem madeO_w (gl : Bool) (h : ScV (σ.at T 0) x sc) (hn : Tn σ T) (hs : ScS sc) (hl : SlV .int (σ.at T 0) l xl) (hl100 : l.length ≤ 1000) :
    W (S.skolemlaw19_made xl x σ) fun r => ∃ T' li e w xc y, r.1 = (.ptr li 0, y) ∧ Hop vI σ T r.2 T' ∧ IncG gl r.2 T' li e 8 (clausesOf l 8) w xc ∧ OL r.2 T' 40 (clausesOf l 8) y ∧ w ≤ 1000 := by
  obtain ⟨x0, x1, x2, x3, rfl, h0, h1, h2, h3⟩ := h
  unfold S.skolemlaw19_made
  repeat' (with_reducible refine W.aggK (by with_unfolding_all rfl) ?_)
  refine W.new0 hn fun l2 τ1 _ L1 k1 hn1 => ?_
  have hx : ScV (τ1.at T 0) (.agg [x0, x1, x2, x3, .int .i64 sc.2.1, .int .i64 sc.2.2]) sc := ⟨x0, x1, x2, x3, rfl, h0.hle L1, h1.hle L1, h2.hle L1, h3.hle L1⟩
  replace hl := hl.hle L1
  have HH : Hop iI σ T τ1 T := Hop.of hn L1
  repeat' (with_reducible (first | refine W.bind ?_ | refine W.ldGL (Loc.up (by assumption)) (Nat.le_of_ble_eq_true (by with_unfolding_all rfl)) ?_))
  refine W.mono (free_w hx hn1) fun r hr => ?_
  obtain ⟨y1, τ2⟩ := r
  obtain ⟨T2, H2, hy1⟩ := hr
  dsimp only at H2 hy1 ⊢
  replace hl := hl.hop H2
  replace HH := HH.trans H2.fi
  refine W.bind ?_
  refine W.mono (incNew_w gl hy1 HH.tn hs (by simp)) fun r hr => ?_
  obtain ⟨r, τ3⟩ := r
  obtain ⟨T3, li, e, xc, er, H3, h⟩ := hr
  dsimp only at er H3 h ⊢
  subst er
  replace hl := hl.hop H3
  replace HH := HH.trans H3
  refine W.bind ?_
  refine W.mono (P := fun r => r.1 = false ∧ ∃ T', Hop iI τ3 T3 r.2 T' ∧ IncG gl r.2 T' li e 8 [] 0 xc) ?_ fun r hr => ?_
  · refine W.condF (x := some (true, τ3)) rfl ?_
    refine W.condF rfl ?_
    refine W.bind ?_
    refine W.mono (fresh_w (m := 8) h HH.tn (by omega) (by omega)) fun r hr => ?_
    obtain ⟨r, τ4⟩ := r
    obtain ⟨T4, er, H4, h⟩ := hr
    dsimp only at er H4 h ⊢
    subst er
    repeat' (with_reducible refine W.ret ?_)
    exact ⟨rfl, T4, H4, h⟩
  obtain ⟨r, τ4⟩ := r
  obtain ⟨er, T4, H4, h⟩ := hr
  dsimp only at er H4 h ⊢
  subst er
  replace hl := hl.hop H4
  replace HH := HH.trans H4
  refine W.condF rfl ?_
  refine W.bind ?_
  refine W.mono (clauses_w hl.up (by omega) (vars := 8) (by omega)) fun r hr => ?_
  obtain ⟨y, τ5⟩ := r
  obtain ⟨L5, hA⟩ := hr
  dsimp only at L5 hA ⊢
  obtain ⟨T5, H5, hcs⟩ := hA.ol HH.tn L5 40
  replace h := h.hop H5
  have HH : Hop vI σ T τ5 T5 := HH.iv.trans H5.ov
  obtain ⟨ck1, ck2, ck3⟩ := clausesOf_ok l 8
  generalize hcse : clausesOf l 8 = cs at *
  have hcsu := hcs.sl
  refine W.bind ?_
  refine W.mono (P := fun r => r.1 = .inl () ∧ ∃ T' xc', Hop iI τ5 T5 r.2 T' ∧ IncG gl r.2 T' li e 8 cs cs.length xc' ∧ OL r.2 T' 40 cs y) ?_ fun r hr => ?_
  · refine W.loop cs.length (fun i (z : Int) τ => z = (i : Int) ∧ ∃ T' xc', Hop iI τ5 T5 τ T' ∧ OL τ T' 40 cs y ∧ IncG gl τ T' li e 8 (cs.take i) i xc') ⟨rfl, T5, xc, Hop.refl HH.tn, hcs, by simpa using h⟩ fun i z τ6 hi hI => ?_
    obtain ⟨rfl, T6, xc6, H6, hcs, h⟩ := hI
    have wr : IntKind.i64.wrap ((i : Int) + 1) = ((i + 1 : Nat) : Int) := by rw [wrapS] <;> omega
    have hcsu := hcs.sl
    unfold S.skolemlaw19_made.b0
    repeat' (with_reducible refine W.len (by assumption) ?_)
    (with_reducible refine W.cnd (fun hlt => ?_) (fun hlt => ?_) <;> (try simp only [q1, q2, q3, q4, q5, q6, q7, q8, q9, q10, q11, q12, q13, q14, q15, q16, q17, q18, q19, q20, q21, q22, q23, q24, q25, q26, q27, q28, q29, q30, Kd.ty] at hlt) <;> (try (exfalso; omega)))
    · obtain ⟨a, ha⟩ := get_ex (xs := cs) (i := i) (by omega)
      have ham := List.mem_of_getElem? ha
      have hal := (ck1 a ham).2.1
      have htk : cs.take (i + 1) = cs.take i ++ [a] := by rw [List.take_add_one, ha]; rfl
      have hle := flat_take_le cs i
      refine W.ol_ix hcs ha fun v hv => ?_
      refine W.bind ?_
      refine W.mono (incAdd_w h H6.tn (by omega) (by omega) hv (fun l hl => isL_right ((ck1 a ham).2.2 l hl)) (by rw [List.length_take]; omega) (by omega)) fun r hr => ?_
      obtain ⟨r, τ7⟩ := r
      obtain ⟨er, T7, xc7, H7, h⟩ := hr
      dsimp only at er H7 h ⊢
      subst er
      refine W.fnil (f := none) rfl (W.condF rfl ?_)
      repeat' (with_reducible refine W.next ?_)
      exact ⟨by omega, wr, T7, xc7, H6.trans H7, hcs.hop H7, by rw [htk]; exact h⟩
    · repeat' (with_reducible refine W.stop ?_)
      have : i = cs.length := by omega
      subst this
      rw [List.take_length] at h
      exact ⟨rfl, T6, xc6, H6, h, hcs⟩
  · obtain ⟨r, τ6⟩ := r
    obtain ⟨er, T6, xc6, H6, h, hcs⟩ := hr
    dsimp only at er H6 h hcs ⊢
    subst er
    refine W.ret ?_
    exact ⟨T6, li, e, _, xc6, y, rfl, HH.trans H6.iv, h, hcs, by omega⟩
end
end Go.Proofs.YtekehmgfedmflaaDoor.A
