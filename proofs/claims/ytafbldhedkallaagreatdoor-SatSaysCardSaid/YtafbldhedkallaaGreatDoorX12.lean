/- Parts of the proof, one behind another. -/
import Derived.Test.YtafbldhedkallaaGreatDoorX11
set_option linter.all false
noncomputable section
namespace Go.Proofs.YtafbldhedkallaaGreatDoor.A
section
open Go
theorem ydk_ {vars : Int} {cs : List (List Int)} (h0 : 0 ≤ vars) (h1 : vars ≤ 4000) (h2 : cs.length ≤ 20000) (h3 : cs.flatten.length ≤ 80000) (h4 : ∀ c ∈ cs, y31_ vars c) : chkC vars cs = none := by
 unfold chkC
 rw [if_neg (by omega)]
 have : cs.findIdx? (badC vars) = none := by
  rw [List.findIdx?_eq_none_iff]
  intro c hc
  have := yaf_.2 (h4 c hc)
  simpa using this
 rw [this]; rfl
theorem ya8_ (l : List Int) {n : Nat} (hn : n ≤ 4000) (hl : l.length ≤ 20000) : chkC (n : Int) (y15_ l n) = none := by
 obtain ⟨h1, h2, h3⟩ := y5t_ l (n : Int)
 exact ydk_ (by omega) (by omega) (by omega) (by omega) fun c hc => (h1 c hc).2.2
theorem yf6_ : ∀ n, n ≤ 11 → 6 * mu n ≤ 400000000 := fun n hn => by
 have h : ∀ k : Fin 12, 6 * mu k.1 ≤ 400000000 := by decide
 exact h ⟨n, by omega⟩
theorem SlV.tz0 {α : Type} {v : Vw α} {σ : Heap} {xs : List α} {x : AVal} (h : SlV v σ xs x) : SlV v (σ.at Tz 0) xs x := by rw [at_tz]; exact h
theorem GlS.tz0 {σ : Heap} {E : List Er} (h : GlS E σ) : GlS E (σ.at Tz 0) := by rw [at_tz]; exact h
section
variable {σ τ : Heap} {T T' : Tg} {e : EnP} {n k id : Nat} {x y : AVal} {A : List Int} {C cs : List (List Int)} {w : Nat} {sc : (List Int × List Int × List Int × List Int) × Int × Int}
theorem ScV.up (h : ScV (σ.at T 0) x sc) : ScV σ x sc := by
 obtain ⟨x0, x1, x2, x3, e, h1, h2, h3, h4⟩ := h
 exact ⟨x0, x1, x2, x3, e, h1.up, h2.up, h3.up, h4.up⟩
theorem GlS.up {E : List Er} (h : GlS E (σ.at T 0)) : GlS E σ := h.mono at_le
theorem W.newA {R : Type} {Q : R → Prop} (hn : Tn σ T) {sz m : Nat} {zs ds : List AVal} {K : Nat → Heap → Option R} (hz : zs.length = m) (hd : ds.length = m)
  (c : ∀ l τ, l = σ.next → Hle σ τ → Loc (τ.at T 0) l ds → Tn τ T → W (K l τ) Q) : W (YtafbldhedkallaaGreatDoor.A.newK σ sz zs fun l σ' => YtafbldhedkallaaGreatDoor.A.aggK (.agg ds) m fun cs => YtafbldhedkallaaGreatDoor.A.stC σ' (.ptr l 0) cs (K l)) Q := by
 refine W.newg fun l τ1 hl L1 _ g1 n1 => ?_
 refine W.aggK hd ?_
 refine W.st0 (cs := zs) (vs := ds) ⟨by omega, sz, g1⟩ (by omega) fun τ2 L2 e2 h2 => ?_
 have L := L1.ofk (by omega) L2
 obtain ⟨sz2, g2⟩ := h2.get
 exact c l τ2 hl L ⟨h2.lt, sz2, at_of (hn.z _ (by omega)) g2⟩ (hn.mono L)
theorem y9n_ {l : List Int} {vars : Int} {xl xs : AVal} (hg : GlAll σ) (hl : SlV .int σ l xl) (hsc : ScV σ xs sc) (b1 : l.length ≤ 4611686018427387904) : W (S.z106 xl vars xs σ) fun r => r.1 = true := by
 have hg : GlAll (σ.at Tz 0) := hg.tz0
 have hl := hl.tz0
 have hn : Tn σ Tz := Tn.tz
 obtain ⟨x0, x1, x2, x3, rfl, s0, s1, s2, s3⟩ := hsc
 unfold S.z106
 repeat' (with_reducible refine W.e3 ?_)
 refine W.new0 hn fun l2 τ1 _ L1 k2 hn => ?_
 have hx : ScV (τ1.at Tz 0) (.agg [x0, x1, x2, x3, .int .i64 sc.2.1, .int .i64 sc.2.2]) sc := ⟨x0, x1, x2, x3, rfl, s0.tz0.hle L1, s1.tz0.hle L1, s2.tz0.hle L1, s3.tz0.hle L1⟩
 clear s0 s1 s2 s3
 replace hl := hl.hle L1
 replace hg := hg.hle L1
 repeat' (with_reducible refine W.bind ?_)
 refine W.mono (ydb_ (hg.sub (by decide)) hn) fun r hr => ?_
 obtain ⟨r, τ2⟩ := r
 obtain ⟨er, T2, H2⟩ := hr
 dsimp only at er H2 ⊢
 subst er
 replace hl := hl.hop H2
 replace hg := hg.hop H2
 replace hx := hx.hop H2
 replace k2 := k2.hop H2
 replace hn := H2.tn
 have hlu := hl.up
 refine W.condF rfl ?_
 repeat' with_reducible first | refine W.bind ?_ | refine W.len (by assumption) ?_
 (with_reducible refine W.cnd (fun hbig => ?_) (fun hbig => ?_) <;> (try simp only [qq, Kd.ty] at hbig) <;> (try (exfalso; omega)))
 ·repeat' with_reducible refine W.ret ?_
  refine W.condT rfl ?_
  repeat' with_reducible refine W.ret ?_
  rfl
 repeat' with_reducible first | refine W.bind ?_ | refine W.u1 ?_
 refine W.mono (ygk_ hx.up) fun r hr => ?_
 obtain ⟨r, τ3⟩ := r
 obtain ⟨er, L3⟩ := hr
 dsimp only at er L3 ⊢
 replace hl := hl.hle L3
 replace hg := hg.hle L3
 replace hx := hx.hle L3
 replace k2 := k2.hle L3
 replace hn := hn.mono L3
 repeat' with_reducible refine W.ret ?_
 by_cases hsm : ¬ ScS sc
 ·have : r = false := by
   cases r
   ·rfl
   ·exact absurd (er.1 rfl) hsm
  subst this
  refine W.condT rfl ?_
  repeat' with_reducible refine W.ret ?_
  rfl
 replace hsm := Classical.not_not.1 hsm
 obtain rfl : r = true := er.2 hsm
 refine W.condF rfl ?_
 repeat' (with_reducible refine W.bind ?_)
 refine W.to (y41_ (by decide) (by decide)) ?_
 have m0 := Int.emod_nonneg vars (show (10 : Int) ≠ 0 by decide)
 have m1 := Int.emod_lt_of_pos vars (show (0 : Int) < 10 by decide)
 obtain ⟨n, hnn⟩ : ∃ n : Nat, vars % 10 + 1 = n := ⟨(vars % 10 + 1).toNat, by omega⟩
 have w1 : IntKind.i64.wrap (vars % 10 + 1) = (n : Int) := by rw [wrapS] <;> omega
 have w2 : IntKind.i64.wrap ((n : Int) + 1) = ((n + 1 : Nat) : Int) := by rw [wrapS] <;> omega
 repeat' with_reducible first | refine W.ret ?_ | refine W.bind ?_
 rw [w1, w2]
 have hn10 : n ≤ 10 := by omega
 refine W.mono (cnf_w hl.up (by omega) (vars := (n : Int)) (by omega)) fun r hr => ?_
 obtain ⟨r, τ4⟩ := r
 obtain ⟨L4, y, er, hA⟩ := hr
 dsimp only at L4 er hA ⊢
 subst er
 have hcs := hA.atF fun k hk => hn.z k hk
 replace hl := hl.hle L4
 replace hg := hg.hle L4
 replace hx := hx.hle L4
 replace k2 := k2.hle L4
 replace hn := hn.mono L4
 obtain ⟨ck1, ck2, ck3⟩ := y5t_ l (n : Int)
 have hchk := ya8_ l (n := n) (by omega) (by omega)
 generalize hcse : y15_ l (n : Int) = cs at *
 refine W.newA hn rfl rfl fun l11 τ5 _ L5 k11 _ => ?_
 replace hl := hl.hle L5
 replace hg := hg.hle L5
 replace hx := hx.hle L5
 replace k2 := k2.hle L5
 replace hcs := hcs.hle L5
 replace hn := hn.mono L5
 repeat' with_reducible first | refine W.bind ?_ | refine W.u1 ?_
 refine W.mono (yh0_ hx hn) fun r hr => ?_
 obtain ⟨y1, τ7⟩ := r
 obtain ⟨T7, H7, hy1⟩ := hr
 dsimp only at H7 hy1 ⊢
 replace hl := hl.hop H7
 replace hg := hg.hop H7
 replace hx := hx.hop H7
 replace k2 := k2.hop H7
 replace hcs := hcs.hop H7
 replace k11 := k11.hop H7
 replace hn := H7.tn
 repeat' with_reducible first | refine W.bind ?_ | refine W.chk rfl ?_ | refine W.u1 ?_
 refine W.mono (y7k_ (n := n) (hg.sub (by decide)) hcs hy1 hn hsm (by simp) hchk (by omega) (by have := yf6_ n (by omega); omega)) fun r hr => ?_
 obtain ⟨r, τ8⟩ := r
 obtain ⟨T8, H8, hso⟩ := hr
 dsimp only at H8 hso ⊢
 replace hl := hl.hop H8
 replace hg := hg.hop H8
 replace hx := hx.hop H8
 replace k2 := k2.hop H8
 replace hcs := hcs.hop H8
 replace k11 := k11.hop H8
 replace hn := H8.tn
 obtain ⟨e2, b, u, v, e1⟩ := hso.agg
 obtain ⟨r1, r2⟩ := r
 dsimp only at e1 e2 ⊢
 subst e1 e2
 refine W.newA hn rfl rfl fun l20 τ9 _ L9 k20 _ => ?_
 replace hl := hl.hle L9
 replace hg := hg.hle L9
 replace hx := hx.hle L9
 replace k2 := k2.hle L9
 replace hcs := hcs.hle L9
 replace k11 := k11.hle L9
 replace hn := hn.mono L9
 replace hso := hso.hle L9
 repeat' with_reducible first | refine W.bind ?_ | refine W.u1 ?_
 have hR : ∀ c ∈ cs, y31_ n c := fun c hc => (ck1 c hc).2.2
 refine W.mono (sat_w (vars := n) (by omega) hcs.up hR (by omega) fun c hc => by have := (ck1 c hc).2.1; omega) fun r hr => ?_
 obtain ⟨⟨yr, is⟩, τ11⟩ := r
 obtain ⟨L11, hs⟩ := hr
 dsimp only at L11 hs ⊢
 replace hl := hl.hle L11
 replace hg := hg.hle L11
 replace hx := hx.hle L11
 replace k2 := k2.hle L11
 replace hcs := hcs.hle L11
 replace k11 := k11.hle L11
 replace k20 := k20.hle L11
 replace hn := hn.mono L11
 replace hso := hso.hle L11
 refine W.newI1 hn fun l26 τ12 _ L12 h26 _ => ?_
 replace hl := hl.hle L12
 replace hg := hg.hle L12
 replace hx := hx.hle L12
 replace k2 := k2.hle L12
 replace hcs := hcs.hle L12
 replace k11 := k11.hle L12
 replace k20 := k20.hle L12
 replace hn := hn.mono L12
 replace hso := hso.hle L12
 refine W.new1 (v := vIs) hn [((n + 1 : Nat) : Int)] rfl (fun τ L => ⟨_, rfl, h26.mono L⟩) fun l28 τ13 _ L13 h28 _ => ?_
 replace hl := hl.hle L13
 replace hg := hg.hle L13
 replace hx := hx.hle L13
 replace k2 := k2.hle L13
 replace hcs := hcs.hle L13
 replace k11 := k11.hle L13
 replace k20 := k20.hle L13
 replace hn := hn.mono L13
 replace hso := hso.hle L13
 repeat' with_reducible first | refine W.bind ?_ | refine W.u1 ?_
 have hbad : chkC (n : Int) [[((n + 1 : Nat) : Int)]] = some (.range, some 0) := by
  unfold chkC
  rw [if_neg (by simp; omega)]
  have : List.findIdx? (badC (n : Int)) [[((n + 1 : Nat) : Int)]] = some 0 := by
   have hb : badC (n : Int) [((n + 1 : Nat) : Int)] = true := by
    unfold badC
    rw [List.any_eq_true]
    refine ⟨_, List.mem_singleton.2 rfl, ?_⟩
    rw [Bool.not_eq_true', Bool.eq_false_iff]
    intro h
    obtain ⟨_, _, h⟩ := yl_.1 h
    omega
   rw [List.findIdx?_cons, hb]; rfl
  rw [this]; rfl
 refine W.mono (y9m_ (hg.up.sub (by decide)) h28.up hx.up (by simp) (by simp) hbad) fun r hr => ?_
 obtain ⟨⟨r1, r2⟩, τ14⟩ := r
 obtain ⟨e1, L14, hF⟩ := hr
 dsimp only at e1 L14 hF ⊢
 subst e1
 replace hl := hl.hle L14
 replace hg := hg.hle L14
 replace hx := hx.hle L14
 replace k2 := k2.hle L14
 replace hcs := hcs.hle L14
 replace k11 := k11.hle L14
 replace k20 := k20.hle L14
 replace hn := hn.mono L14
 replace hso := hso.hle L14
 refine W.newA hn rfl rfl fun l32 τ15 _ L15 k32 _ => ?_
 replace hl := hl.hle L15
 replace hg := hg.hle L15
 replace hx := hx.hle L15
 replace k2 := k2.hle L15
 replace hcs := hcs.hle L15
 replace k11 := k11.hle L15
 replace k20 := k20.hle L15
 replace hn := hn.mono L15
 replace hso := hso.hle L15
 replace hF := hF.mono L15
 refine W.bind ?_
 refine W.mono (P := fun r => r.1 = false ∧ Hle τ15 r.2) ?_ fun r hr => ?_
 ·refine W.fnil (f := none) rfl ?_
  refine W.condF rfl ?_
  repeat' with_reducible first | refine W.asB ?_ | refine W.u0 ?_
  have hbe : (b == is) = true := by
   rcases hso with ⟨_, M, e, _, _, hmo, _⟩ | ⟨_, core, e, _, hA, hno, _⟩
   ·cases e
    rcases hs with ⟨rfl, _⟩ | ⟨_, _, hno⟩
    ·rfl
    ·exact absurd hmo (hno _)
   ·cases e
    rcases hs with ⟨_, m, _, _, hmo⟩ | ⟨rfl, _⟩
    ·exact absurd (fun l hl => absurd (hA l hl) (by simp)) (hno _ hmo)
    ·rfl
  refine W.condF (by rw [hbe]; rfl) ?_
  refine W.bind ?_
  refine W.mono (yao_ (by decide)) fun r hr => ?_
  obtain ⟨r, τ16⟩ := r
  obtain ⟨er, L16⟩ := hr
  dsimp only at er L16 ⊢
  subst er
  refine W.bind ?_
  refine W.mono (see_w (g := some (.range, some 0)) (hg.up.mono L16) (hF.mono L16)) fun r hr => ?_
  obtain ⟨r, τ17⟩ := r
  obtain ⟨er, L17⟩ := hr
  dsimp only at er L17 ⊢
  subst er
  repeat' with_reducible refine W.ret ?_
  exact ⟨by simp, L16.trans L17⟩
 obtain ⟨r, τ18⟩ := r
 obtain ⟨er, L18⟩ := hr
 dsimp only at er L18 ⊢
 subst er
 replace hl := hl.hle L18
 replace hg := hg.hle L18
 replace hx := hx.hle L18
 replace k2 := k2.hle L18
 replace hcs := hcs.hle L18
 replace k11 := k11.hle L18
 replace k20 := k20.hle L18
 replace hn := hn.mono L18
 replace hso := hso.hle L18
 refine W.condF rfl ?_
 rcases hso with ⟨_, M, e, hM, hMl, hmo, _⟩ | ⟨_, core, e, hC, hA, hno, _⟩
 ·cases e
  have hMu := hM.up
  obtain rfl : is = true := by
   rcases hs with ⟨rfl, _⟩ | ⟨_, _, hno⟩
   ·rfl
   ·exact absurd hmo (hno _)
  refine W.condF rfl ?_
  repeat' (with_reducible refine W.bind ?_)
  refine W.condT rfl ?_
  repeat' with_reducible first | refine W.asV ?_ | refine W.len (by assumption) ?_ | refine W.u0 ?_
  refine W.condT (by rw [hMl]; simp) ?_
  repeat' with_reducible first | refine W.bind ?_ | refine W.asV ?_ | refine W.u0 ?_
  refine W.mono (of_w hcs.up hMu (by omega) fun c hc => ⟨by have := (ck1 c hc).2.1; omega, fun l hl => by have := hR c hc l hl; simp [inB]; omega⟩) fun r hr => ?_
  subst hr
  repeat' with_reducible refine W.ret ?_
  exact (y6l_ fun c hc l hl => by have := hR c hc l hl; rw [hMl]; omega).2 hmo
 ·cases e
  have hCu := hC.up
  obtain rfl : is = false := by
   rcases hs with ⟨_, m, _, _, hmo⟩ | ⟨rfl, _⟩
   ·exact absurd (fun l hl => absurd (hA l hl) (by simp)) (hno _ hmo)
   ·rfl
  obtain rfl : core = [] := by
   cases core with
   | nil => rfl
   | cons a t => exact absurd (hA a (by simp)) (by simp)
  refine W.condT rfl ?_
  repeat' (with_reducible refine W.bind ?_)
  refine W.condT rfl ?_
  repeat' with_reducible first | refine W.ret ?_ | refine W.asV ?_ | refine W.len (by assumption) ?_ | refine W.u0 ?_
  rfl
end
end
end Go.Proofs.YtafbldhedkallaaGreatDoor.A
end
