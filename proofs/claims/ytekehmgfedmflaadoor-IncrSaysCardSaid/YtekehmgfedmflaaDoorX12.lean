/- Parts of the proof, one behind another. -/
import Derived.Test.YtekehmgfedmflaaDoorX11
set_option linter.all false
/- The solver that is asked again: IncrSays, the law. -/
namespace Go.Proofs.YtekehmgfedmflaaDoor.A
open Go
def kI : Nat → Bool := fun j => j == 28 || j == 41
/-- The clauses with other variables, as0 they are wanted. -/
def wantL (ys : List Int) (cs : List (List Int)) : List (List Int) := cs.map fun c => if c.all (okL ys) = true then c.map (valL ys) else []
section
variable {σ τ : Heap} {T T' : Tg} {e : EnP} {n k id t li : Nat} {x y xc xl xs xp xb xd : AVal} {A c ys l put bad : List Int} {C cs : List (List Int)} {w : Nat} {gl : Bool} {sc : (List Int × List Int × List Int × List Int) × Int × Int}
theorem Hop.k28 (H : Hop (only 28) σ T τ T') : Hop kI σ T τ T' := H.sub fun i hi => by simp [kI] at hi ⊢; exact .inl hi
theorem Hop.k41 (H : Hop (only 41) σ T τ T') : Hop kI σ T τ T' := H.sub fun i hi => by simp [kI] at hi ⊢; exact .inr hi
theorem nearA_w {zs : List Int} (h : SlV .int σ zs x) (hb : zs.length ≤ 1000000) : W (S.skolemmake_Near x σ) fun r => r = true → ∀ v ∈ zs, -1152921504606846976 ≤ v := by
  unfold S.skolemmake_Near
  refine W.bind ?_
  refine W.mono (P := fun r => r = .inr false ∨ (r = .inl () ∧ ∀ v ∈ zs, -1152921504606846976 ≤ v)) ?_ fun r hr => ?_
  · refine W.loopP zs.length (fun i z => z = (i : Int) ∧ ∀ v ∈ zs.take i, -1152921504606846976 ≤ v) ⟨rfl, fun v hv => by simp at hv⟩ fun i z hi hI => ?_
    obtain ⟨rfl, hall⟩ := hI
    have wr : IntKind.i64.wrap ((i : Int) + 1) = ((i + 1 : Nat) : Int) := by rw [wrapS] <;> omega
    unfold S.skolemmake_Near.b0
    repeat' (with_reducible (first | refine W.next ?_ | refine W.stop ?_ | refine W.nextP ?_ | refine W.stopP ?_ | refine W.ret ?_ | refine W.bind ?_ | refine W.asI ?_ | refine W.asB ?_ | refine W.asV ?_ | refine W.asS ?_ | refine W.chk rfl ?_ | refine W.aggK (by with_unfolding_all rfl) ?_ | refine W.fldp ?_ | refine W.fldfld ?_ | refine W.lenN ?_ | refine W.len (by assumption) ?_ | refine W.len (SlV.mono (by assumption) (by assumption)) ?_ | refine W.ldL (by assumption) (by with_unfolding_all rfl) ?_ | refine W.ldp (by assumption) (by with_unfolding_all rfl) ?_ | refine W.ldGL (by assumption) (Nat.le_of_ble_eq_true (by with_unfolding_all rfl)) ?_ | refine W.fldld (by assumption) (by with_unfolding_all rfl) ?_ | refine W.ld0 (by assumption) (by with_unfolding_all rfl) ?_ | refine W.ldGG (by assumption) (by with_unfolding_all rfl) ?_ | refine W.ixIc (by assumption) (by assumption) ?_ | refine W.ixIc (SlV.mono (by assumption) (by assumption)) (by assumption) ?_ | refine W.ixBc (by assumption) (by assumption) ?_ | refine W.nnil ?_ | refine W.inil ?_ | refine W.scalS (by assumption) ?_ | refine W.scalS (SlV.mono (by assumption) (by assumption)) ?_ | refine W.nck ?_ | refine W.scI ?_ | refine W.scB ?_ | refine W.scP ?_ | refine W.scM ?_ | refine W.scN ?_ | refine W.scNp ?_ | refine W.scNi ?_ | refine W.scIf ?_ | refine W.scSl ?_ | refine W.putC (by with_unfolding_all rfl) ?_ | refine W.ldL (Loc.up (by assumption)) (by with_unfolding_all rfl) ?_ | refine W.ldGL (Loc.up (by assumption)) (Nat.le_of_ble_eq_true (by with_unfolding_all rfl)) ?_ | refine W.len (SlV.up (by assumption)) ?_ | refine W.len (Own.slT (by assumption)) ?_ | refine W.scalS (SlV.up (by assumption)) ?_ | refine W.scalS (Own.slT (by assumption)) ?_ | refine W.ixIc (SlV.up (by assumption)) (by assumption) ?_ | refine W.ixIc (Own.slT (by assumption)) (by assumption) ?_ | refine W.ixBc (Own.slT (by assumption)) (by assumption) ?_ | refine W.mgetT (by assumption) ?_))
    (with_reducible refine W.cnd (fun hlt => ?_) (fun hlt => ?_) <;> (try simp only [q1, q2, q3, q4, q5, q6, q7, q8, q9, q10, q11, q12, q13, q14, q15, q16, q17, q18, q19, q20, q21, q22, q23, q24, q25, q26, q27, q28, q29, q30, Kd.ty] at hlt) <;> (try (exfalso; omega)))
    · obtain ⟨a, ha⟩ := get_ex (xs := zs) (i := i) (by omega)
      have htk : zs.take (i + 1) = zs.take i ++ [a] := by rw [List.take_add_one, ha]; rfl
      repeat' (with_reducible (first | refine W.next ?_ | refine W.stop ?_ | refine W.nextP ?_ | refine W.stopP ?_ | refine W.ret ?_ | refine W.bind ?_ | refine W.asI ?_ | refine W.asB ?_ | refine W.asV ?_ | refine W.asS ?_ | refine W.chk rfl ?_ | refine W.aggK (by with_unfolding_all rfl) ?_ | refine W.fldp ?_ | refine W.fldfld ?_ | refine W.lenN ?_ | refine W.len (by assumption) ?_ | refine W.len (SlV.mono (by assumption) (by assumption)) ?_ | refine W.ldL (by assumption) (by with_unfolding_all rfl) ?_ | refine W.ldp (by assumption) (by with_unfolding_all rfl) ?_ | refine W.ldGL (by assumption) (Nat.le_of_ble_eq_true (by with_unfolding_all rfl)) ?_ | refine W.fldld (by assumption) (by with_unfolding_all rfl) ?_ | refine W.ld0 (by assumption) (by with_unfolding_all rfl) ?_ | refine W.ldGG (by assumption) (by with_unfolding_all rfl) ?_ | refine W.ixIc (by assumption) (by assumption) ?_ | refine W.ixIc (SlV.mono (by assumption) (by assumption)) (by assumption) ?_ | refine W.ixBc (by assumption) (by assumption) ?_ | refine W.nnil ?_ | refine W.inil ?_ | refine W.scalS (by assumption) ?_ | refine W.scalS (SlV.mono (by assumption) (by assumption)) ?_ | refine W.nck ?_ | refine W.scI ?_ | refine W.scB ?_ | refine W.scP ?_ | refine W.scM ?_ | refine W.scN ?_ | refine W.scNp ?_ | refine W.scNi ?_ | refine W.scIf ?_ | refine W.scSl ?_ | refine W.putC (by with_unfolding_all rfl) ?_ | refine W.ldL (Loc.up (by assumption)) (by with_unfolding_all rfl) ?_ | refine W.ldGL (Loc.up (by assumption)) (Nat.le_of_ble_eq_true (by with_unfolding_all rfl)) ?_ | refine W.len (SlV.up (by assumption)) ?_ | refine W.len (Own.slT (by assumption)) ?_ | refine W.scalS (SlV.up (by assumption)) ?_ | refine W.scalS (Own.slT (by assumption)) ?_ | refine W.ixIc (SlV.up (by assumption)) (by assumption) ?_ | refine W.ixIc (Own.slT (by assumption)) (by assumption) ?_ | refine W.ixBc (Own.slT (by assumption)) (by assumption) ?_ | refine W.mgetT (by assumption) ?_))
      (with_reducible refine W.cnd (fun ha2 => ?_) (fun ha2 => ?_) <;> (try simp only [q1, q2, q3, q4, q5, q6, q7, q8, q9, q10, q11, q12, q13, q14, q15, q16, q17, q18, q19, q20, q21, q22, q23, q24, q25, q26, q27, q28, q29, q30, Kd.ty] at ha2) <;> (try (exfalso; omega)))
      · repeat' (with_reducible (first | refine W.next ?_ | refine W.stop ?_ | refine W.nextP ?_ | refine W.stopP ?_ | refine W.ret ?_ | refine W.bind ?_ | refine W.asI ?_ | refine W.asB ?_ | refine W.asV ?_ | refine W.asS ?_ | refine W.chk rfl ?_ | refine W.aggK (by with_unfolding_all rfl) ?_ | refine W.fldp ?_ | refine W.fldfld ?_ | refine W.lenN ?_ | refine W.len (by assumption) ?_ | refine W.len (SlV.mono (by assumption) (by assumption)) ?_ | refine W.ldL (by assumption) (by with_unfolding_all rfl) ?_ | refine W.ldp (by assumption) (by with_unfolding_all rfl) ?_ | refine W.ldGL (by assumption) (Nat.le_of_ble_eq_true (by with_unfolding_all rfl)) ?_ | refine W.fldld (by assumption) (by with_unfolding_all rfl) ?_ | refine W.ld0 (by assumption) (by with_unfolding_all rfl) ?_ | refine W.ldGG (by assumption) (by with_unfolding_all rfl) ?_ | refine W.ixIc (by assumption) (by assumption) ?_ | refine W.ixIc (SlV.mono (by assumption) (by assumption)) (by assumption) ?_ | refine W.ixBc (by assumption) (by assumption) ?_ | refine W.nnil ?_ | refine W.inil ?_ | refine W.scalS (by assumption) ?_ | refine W.scalS (SlV.mono (by assumption) (by assumption)) ?_ | refine W.nck ?_ | refine W.scI ?_ | refine W.scB ?_ | refine W.scP ?_ | refine W.scM ?_ | refine W.scN ?_ | refine W.scNp ?_ | refine W.scNi ?_ | refine W.scIf ?_ | refine W.scSl ?_ | refine W.putC (by with_unfolding_all rfl) ?_ | refine W.ldL (Loc.up (by assumption)) (by with_unfolding_all rfl) ?_ | refine W.ldGL (Loc.up (by assumption)) (Nat.le_of_ble_eq_true (by with_unfolding_all rfl)) ?_ | refine W.len (SlV.up (by assumption)) ?_ | refine W.len (Own.slT (by assumption)) ?_ | refine W.scalS (SlV.up (by assumption)) ?_ | refine W.scalS (Own.slT (by assumption)) ?_ | refine W.ixIc (SlV.up (by assumption)) (by assumption) ?_ | refine W.ixIc (Own.slT (by assumption)) (by assumption) ?_ | refine W.ixBc (Own.slT (by assumption)) (by assumption) ?_ | refine W.mgetT (by assumption) ?_))
        exact .inl rfl
      · repeat' (with_reducible (first | refine W.next ?_ | refine W.stop ?_ | refine W.nextP ?_ | refine W.stopP ?_ | refine W.ret ?_ | refine W.bind ?_ | refine W.asI ?_ | refine W.asB ?_ | refine W.asV ?_ | refine W.asS ?_ | refine W.chk rfl ?_ | refine W.aggK (by with_unfolding_all rfl) ?_ | refine W.fldp ?_ | refine W.fldfld ?_ | refine W.lenN ?_ | refine W.len (by assumption) ?_ | refine W.len (SlV.mono (by assumption) (by assumption)) ?_ | refine W.ldL (by assumption) (by with_unfolding_all rfl) ?_ | refine W.ldp (by assumption) (by with_unfolding_all rfl) ?_ | refine W.ldGL (by assumption) (Nat.le_of_ble_eq_true (by with_unfolding_all rfl)) ?_ | refine W.fldld (by assumption) (by with_unfolding_all rfl) ?_ | refine W.ld0 (by assumption) (by with_unfolding_all rfl) ?_ | refine W.ldGG (by assumption) (by with_unfolding_all rfl) ?_ | refine W.ixIc (by assumption) (by assumption) ?_ | refine W.ixIc (SlV.mono (by assumption) (by assumption)) (by assumption) ?_ | refine W.ixBc (by assumption) (by assumption) ?_ | refine W.nnil ?_ | refine W.inil ?_ | refine W.scalS (by assumption) ?_ | refine W.scalS (SlV.mono (by assumption) (by assumption)) ?_ | refine W.nck ?_ | refine W.scI ?_ | refine W.scB ?_ | refine W.scP ?_ | refine W.scM ?_ | refine W.scN ?_ | refine W.scNp ?_ | refine W.scNi ?_ | refine W.scIf ?_ | refine W.scSl ?_ | refine W.putC (by with_unfolding_all rfl) ?_ | refine W.ldL (Loc.up (by assumption)) (by with_unfolding_all rfl) ?_ | refine W.ldGL (Loc.up (by assumption)) (Nat.le_of_ble_eq_true (by with_unfolding_all rfl)) ?_ | refine W.len (SlV.up (by assumption)) ?_ | refine W.len (Own.slT (by assumption)) ?_ | refine W.scalS (SlV.up (by assumption)) ?_ | refine W.scalS (Own.slT (by assumption)) ?_ | refine W.ixIc (SlV.up (by assumption)) (by assumption) ?_ | refine W.ixIc (Own.slT (by assumption)) (by assumption) ?_ | refine W.ixBc (Own.slT (by assumption)) (by assumption) ?_ | refine W.mgetT (by assumption) ?_))
        refine ⟨by omega, wr, fun v hv => ?_⟩
        rw [htk] at hv
        rcases List.mem_append.1 hv with q | q
        · exact hall v q
        · rw [List.mem_singleton.1 q]; omega
    · repeat' (with_reducible (first | refine W.next ?_ | refine W.stop ?_ | refine W.nextP ?_ | refine W.stopP ?_ | refine W.ret ?_ | refine W.bind ?_ | refine W.asI ?_ | refine W.asB ?_ | refine W.asV ?_ | refine W.asS ?_ | refine W.chk rfl ?_ | refine W.aggK (by with_unfolding_all rfl) ?_ | refine W.fldp ?_ | refine W.fldfld ?_ | refine W.lenN ?_ | refine W.len (by assumption) ?_ | refine W.len (SlV.mono (by assumption) (by assumption)) ?_ | refine W.ldL (by assumption) (by with_unfolding_all rfl) ?_ | refine W.ldp (by assumption) (by with_unfolding_all rfl) ?_ | refine W.ldGL (by assumption) (Nat.le_of_ble_eq_true (by with_unfolding_all rfl)) ?_ | refine W.fldld (by assumption) (by with_unfolding_all rfl) ?_ | refine W.ld0 (by assumption) (by with_unfolding_all rfl) ?_ | refine W.ldGG (by assumption) (by with_unfolding_all rfl) ?_ | refine W.ixIc (by assumption) (by assumption) ?_ | refine W.ixIc (SlV.mono (by assumption) (by assumption)) (by assumption) ?_ | refine W.ixBc (by assumption) (by assumption) ?_ | refine W.nnil ?_ | refine W.inil ?_ | refine W.scalS (by assumption) ?_ | refine W.scalS (SlV.mono (by assumption) (by assumption)) ?_ | refine W.nck ?_ | refine W.scI ?_ | refine W.scB ?_ | refine W.scP ?_ | refine W.scM ?_ | refine W.scN ?_ | refine W.scNp ?_ | refine W.scNi ?_ | refine W.scIf ?_ | refine W.scSl ?_ | refine W.putC (by with_unfolding_all rfl) ?_ | refine W.ldL (Loc.up (by assumption)) (by with_unfolding_all rfl) ?_ | refine W.ldGL (Loc.up (by assumption)) (Nat.le_of_ble_eq_true (by with_unfolding_all rfl)) ?_ | refine W.len (SlV.up (by assumption)) ?_ | refine W.len (Own.slT (by assumption)) ?_ | refine W.scalS (SlV.up (by assumption)) ?_ | refine W.scalS (Own.slT (by assumption)) ?_ | refine W.ixIc (SlV.up (by assumption)) (by assumption) ?_ | refine W.ixIc (Own.slT (by assumption)) (by assumption) ?_ | refine W.ixBc (Own.slT (by assumption)) (by assumption) ?_ | refine W.mgetT (by assumption) ?_))
      have : i = zs.length := by omega
      subst this
      rw [List.take_length] at hall
      exact .inr ⟨rfl, hall⟩
  · rcases hr with rfl | ⟨rfl, h⟩
    · exact W.ret fun h => by cases h
    · exact W.ret fun _ => h
theorem incrSays_plain {m : Int} (hg : GlAll σ) (hl : SlV .int σ l xl) (hsc : ScV σ xs sc) (hput : SlV .int σ put xp) (hby : SlV .int σ ys xb) (hbad : SlV .int σ bad xd) (b1 : l.length ≤ 4611686018427387904) (b2 : put.length ≤ 4611686018427387904) (b3 : ys.length ≤ 4611686018427387904) (b4 : bad.length ≤ 4611686018427387904) (b5 : ∀ v ∈ ys, v ≤ 9223372036854775807) : W (S.skolemlaw19_IncrSays xl xs xp xb m xd σ) fun r => r.1 = true := by
  have hg : GlAll (σ.at Tz 0) := hg.tz0
  have hl := hl.tz0
  have hput := hput.tz0
  have hby := hby.tz0
  have hbad := hbad.tz0
  have hn : Tn σ Tz := Tn.tz
  obtain ⟨x0, x1, x2, x3, rfl, s0, s1, s2, s3⟩ := hsc
  unfold S.skolemlaw19_IncrSays
  repeat' (with_reducible (first | refine W.next ?_ | refine W.stop ?_ | refine W.nextP ?_ | refine W.stopP ?_ | refine W.ret ?_ | refine W.bind ?_ | refine W.asI ?_ | refine W.asB ?_ | refine W.asV ?_ | refine W.asS ?_ | refine W.chk rfl ?_ | refine W.aggK (by with_unfolding_all rfl) ?_ | refine W.fldp ?_ | refine W.fldfld ?_ | refine W.lenN ?_ | refine W.len (by assumption) ?_ | refine W.len (SlV.mono (by assumption) (by assumption)) ?_ | refine W.ldL (by assumption) (by with_unfolding_all rfl) ?_ | refine W.ldp (by assumption) (by with_unfolding_all rfl) ?_ | refine W.ldGL (by assumption) (Nat.le_of_ble_eq_true (by with_unfolding_all rfl)) ?_ | refine W.fldld (by assumption) (by with_unfolding_all rfl) ?_ | refine W.ld0 (by assumption) (by with_unfolding_all rfl) ?_ | refine W.ldGG (by assumption) (by with_unfolding_all rfl) ?_ | refine W.ixIc (by assumption) (by assumption) ?_ | refine W.ixIc (SlV.mono (by assumption) (by assumption)) (by assumption) ?_ | refine W.ixBc (by assumption) (by assumption) ?_ | refine W.nnil ?_ | refine W.inil ?_ | refine W.scalS (by assumption) ?_ | refine W.scalS (SlV.mono (by assumption) (by assumption)) ?_ | refine W.nck ?_ | refine W.scI ?_ | refine W.scB ?_ | refine W.scP ?_ | refine W.scM ?_ | refine W.scN ?_ | refine W.scNp ?_ | refine W.scNi ?_ | refine W.scIf ?_ | refine W.scSl ?_ | refine W.putC (by with_unfolding_all rfl) ?_ | refine W.ldL (Loc.up (by assumption)) (by with_unfolding_all rfl) ?_ | refine W.ldGL (Loc.up (by assumption)) (Nat.le_of_ble_eq_true (by with_unfolding_all rfl)) ?_ | refine W.len (SlV.up (by assumption)) ?_ | refine W.len (Own.slT (by assumption)) ?_ | refine W.scalS (SlV.up (by assumption)) ?_ | refine W.scalS (Own.slT (by assumption)) ?_ | refine W.ixIc (SlV.up (by assumption)) (by assumption) ?_ | refine W.ixIc (Own.slT (by assumption)) (by assumption) ?_ | refine W.ixBc (Own.slT (by assumption)) (by assumption) ?_ | refine W.mgetT (by assumption) ?_))
  refine W.new0 hn fun l2 τ1 _ L1 k2 hn => ?_
  have hx : ScV (τ1.at Tz 0) (.agg [x0, x1, x2, x3, .int .i64 sc.2.1, .int .i64 sc.2.2]) sc := ⟨x0, x1, x2, x3, rfl, s0.tz0.hle L1, s1.tz0.hle L1, s2.tz0.hle L1, s3.tz0.hle L1⟩
  clear s0 s1 s2 s3
  replace hl := hl.hle L1
  replace hput := hput.hle L1
  replace hby := hby.hle L1
  replace hbad := hbad.hle L1
  replace hg := hg.mono (L1.ats Tz 0)
  repeat' (with_reducible (first | refine W.next ?_ | refine W.stop ?_ | refine W.nextP ?_ | refine W.stopP ?_ | refine W.ret ?_ | refine W.bind ?_ | refine W.asI ?_ | refine W.asB ?_ | refine W.asV ?_ | refine W.asS ?_ | refine W.chk rfl ?_ | refine W.aggK (by with_unfolding_all rfl) ?_ | refine W.fldp ?_ | refine W.fldfld ?_ | refine W.lenN ?_ | refine W.len (by assumption) ?_ | refine W.len (SlV.mono (by assumption) (by assumption)) ?_ | refine W.ldL (by assumption) (by with_unfolding_all rfl) ?_ | refine W.ldp (by assumption) (by with_unfolding_all rfl) ?_ | refine W.ldGL (by assumption) (Nat.le_of_ble_eq_true (by with_unfolding_all rfl)) ?_ | refine W.fldld (by assumption) (by with_unfolding_all rfl) ?_ | refine W.ld0 (by assumption) (by with_unfolding_all rfl) ?_ | refine W.ldGG (by assumption) (by with_unfolding_all rfl) ?_ | refine W.ixIc (by assumption) (by assumption) ?_ | refine W.ixIc (SlV.mono (by assumption) (by assumption)) (by assumption) ?_ | refine W.ixBc (by assumption) (by assumption) ?_ | refine W.nnil ?_ | refine W.inil ?_ | refine W.scalS (by assumption) ?_ | refine W.scalS (SlV.mono (by assumption) (by assumption)) ?_ | refine W.nck ?_ | refine W.scI ?_ | refine W.scB ?_ | refine W.scP ?_ | refine W.scM ?_ | refine W.scN ?_ | refine W.scNp ?_ | refine W.scNi ?_ | refine W.scIf ?_ | refine W.scSl ?_ | refine W.putC (by with_unfolding_all rfl) ?_ | refine W.ldL (Loc.up (by assumption)) (by with_unfolding_all rfl) ?_ | refine W.ldGL (Loc.up (by assumption)) (Nat.le_of_ble_eq_true (by with_unfolding_all rfl)) ?_ | refine W.len (SlV.up (by assumption)) ?_ | refine W.len (Own.slT (by assumption)) ?_ | refine W.scalS (SlV.up (by assumption)) ?_ | refine W.scalS (Own.slT (by assumption)) ?_ | refine W.ixIc (SlV.up (by assumption)) (by assumption) ?_ | refine W.ixIc (Own.slT (by assumption)) (by assumption) ?_ | refine W.ixBc (Own.slT (by assumption)) (by assumption) ?_ | refine W.mgetT (by assumption) ?_))
  refine W.mono (first19_w hn) fun r hr => ?_
  obtain ⟨r, τ2⟩ := r
  obtain ⟨er, T2, H2⟩ := hr
  dsimp only at er H2 ⊢
  subst er
  replace hl := hl.hop H2
  replace hput := hput.hop H2
  replace hby := hby.hop H2
  replace hbad := hbad.hop H2
  replace hx := hx.hop H2
  replace k2 := k2.hop H2
  replace hg := hg.hop H2
  replace hn := H2.tn
  have hlu := hl.up
  have hpu := hput.up
  have hyu := hby.up
  have hdu := hbad.up
  refine W.condF rfl ?_
  repeat' (with_reducible (first | refine W.next ?_ | refine W.stop ?_ | refine W.nextP ?_ | refine W.stopP ?_ | refine W.ret ?_ | refine W.bind ?_ | refine W.asI ?_ | refine W.asB ?_ | refine W.asV ?_ | refine W.asS ?_ | refine W.chk rfl ?_ | refine W.aggK (by with_unfolding_all rfl) ?_ | refine W.fldp ?_ | refine W.fldfld ?_ | refine W.lenN ?_ | refine W.len (by assumption) ?_ | refine W.len (SlV.mono (by assumption) (by assumption)) ?_ | refine W.ldL (by assumption) (by with_unfolding_all rfl) ?_ | refine W.ldp (by assumption) (by with_unfolding_all rfl) ?_ | refine W.ldGL (by assumption) (Nat.le_of_ble_eq_true (by with_unfolding_all rfl)) ?_ | refine W.fldld (by assumption) (by with_unfolding_all rfl) ?_ | refine W.ld0 (by assumption) (by with_unfolding_all rfl) ?_ | refine W.ldGG (by assumption) (by with_unfolding_all rfl) ?_ | refine W.ixIc (by assumption) (by assumption) ?_ | refine W.ixIc (SlV.mono (by assumption) (by assumption)) (by assumption) ?_ | refine W.ixBc (by assumption) (by assumption) ?_ | refine W.nnil ?_ | refine W.inil ?_ | refine W.scalS (by assumption) ?_ | refine W.scalS (SlV.mono (by assumption) (by assumption)) ?_ | refine W.nck ?_ | refine W.scI ?_ | refine W.scB ?_ | refine W.scP ?_ | refine W.scM ?_ | refine W.scN ?_ | refine W.scNp ?_ | refine W.scNi ?_ | refine W.scIf ?_ | refine W.scSl ?_ | refine W.putC (by with_unfolding_all rfl) ?_ | refine W.ldL (Loc.up (by assumption)) (by with_unfolding_all rfl) ?_ | refine W.ldGL (Loc.up (by assumption)) (Nat.le_of_ble_eq_true (by with_unfolding_all rfl)) ?_ | refine W.len (SlV.up (by assumption)) ?_ | refine W.len (Own.slT (by assumption)) ?_ | refine W.scalS (SlV.up (by assumption)) ?_ | refine W.scalS (Own.slT (by assumption)) ?_ | refine W.ixIc (SlV.up (by assumption)) (by assumption) ?_ | refine W.ixIc (Own.slT (by assumption)) (by assumption) ?_ | refine W.ixBc (Own.slT (by assumption)) (by assumption) ?_ | refine W.mgetT (by assumption) ?_))
  (with_reducible refine W.cnd (fun hbig => ?_) (fun hbig => ?_) <;> (try simp only [q1, q2, q3, q4, q5, q6, q7, q8, q9, q10, q11, q12, q13, q14, q15, q16, q17, q18, q19, q20, q21, q22, q23, q24, q25, q26, q27, q28, q29, q30, Kd.ty] at hbig) <;> (try (exfalso; omega)))
  · repeat' (with_reducible (first | refine W.next ?_ | refine W.stop ?_ | refine W.nextP ?_ | refine W.stopP ?_ | refine W.ret ?_ | refine W.bind ?_ | refine W.asI ?_ | refine W.asB ?_ | refine W.asV ?_ | refine W.asS ?_ | refine W.chk rfl ?_ | refine W.aggK (by with_unfolding_all rfl) ?_ | refine W.fldp ?_ | refine W.fldfld ?_ | refine W.lenN ?_ | refine W.len (by assumption) ?_ | refine W.len (SlV.mono (by assumption) (by assumption)) ?_ | refine W.ldL (by assumption) (by with_unfolding_all rfl) ?_ | refine W.ldp (by assumption) (by with_unfolding_all rfl) ?_ | refine W.ldGL (by assumption) (Nat.le_of_ble_eq_true (by with_unfolding_all rfl)) ?_ | refine W.fldld (by assumption) (by with_unfolding_all rfl) ?_ | refine W.ld0 (by assumption) (by with_unfolding_all rfl) ?_ | refine W.ldGG (by assumption) (by with_unfolding_all rfl) ?_ | refine W.ixIc (by assumption) (by assumption) ?_ | refine W.ixIc (SlV.mono (by assumption) (by assumption)) (by assumption) ?_ | refine W.ixBc (by assumption) (by assumption) ?_ | refine W.nnil ?_ | refine W.inil ?_ | refine W.scalS (by assumption) ?_ | refine W.scalS (SlV.mono (by assumption) (by assumption)) ?_ | refine W.nck ?_ | refine W.scI ?_ | refine W.scB ?_ | refine W.scP ?_ | refine W.scM ?_ | refine W.scN ?_ | refine W.scNp ?_ | refine W.scNi ?_ | refine W.scIf ?_ | refine W.scSl ?_ | refine W.putC (by with_unfolding_all rfl) ?_ | refine W.ldL (Loc.up (by assumption)) (by with_unfolding_all rfl) ?_ | refine W.ldGL (Loc.up (by assumption)) (Nat.le_of_ble_eq_true (by with_unfolding_all rfl)) ?_ | refine W.len (SlV.up (by assumption)) ?_ | refine W.len (Own.slT (by assumption)) ?_ | refine W.scalS (SlV.up (by assumption)) ?_ | refine W.scalS (Own.slT (by assumption)) ?_ | refine W.ixIc (SlV.up (by assumption)) (by assumption) ?_ | refine W.ixIc (Own.slT (by assumption)) (by assumption) ?_ | refine W.ixBc (Own.slT (by assumption)) (by assumption) ?_ | refine W.mgetT (by assumption) ?_))
    refine W.condT rfl ?_
    repeat' (with_reducible (first | refine W.next ?_ | refine W.stop ?_ | refine W.nextP ?_ | refine W.stopP ?_ | refine W.ret ?_ | refine W.bind ?_ | refine W.asI ?_ | refine W.asB ?_ | refine W.asV ?_ | refine W.asS ?_ | refine W.chk rfl ?_ | refine W.aggK (by with_unfolding_all rfl) ?_ | refine W.fldp ?_ | refine W.fldfld ?_ | refine W.lenN ?_ | refine W.len (by assumption) ?_ | refine W.len (SlV.mono (by assumption) (by assumption)) ?_ | refine W.ldL (by assumption) (by with_unfolding_all rfl) ?_ | refine W.ldp (by assumption) (by with_unfolding_all rfl) ?_ | refine W.ldGL (by assumption) (Nat.le_of_ble_eq_true (by with_unfolding_all rfl)) ?_ | refine W.fldld (by assumption) (by with_unfolding_all rfl) ?_ | refine W.ld0 (by assumption) (by with_unfolding_all rfl) ?_ | refine W.ldGG (by assumption) (by with_unfolding_all rfl) ?_ | refine W.ixIc (by assumption) (by assumption) ?_ | refine W.ixIc (SlV.mono (by assumption) (by assumption)) (by assumption) ?_ | refine W.ixBc (by assumption) (by assumption) ?_ | refine W.nnil ?_ | refine W.inil ?_ | refine W.scalS (by assumption) ?_ | refine W.scalS (SlV.mono (by assumption) (by assumption)) ?_ | refine W.nck ?_ | refine W.scI ?_ | refine W.scB ?_ | refine W.scP ?_ | refine W.scM ?_ | refine W.scN ?_ | refine W.scNp ?_ | refine W.scNi ?_ | refine W.scIf ?_ | refine W.scSl ?_ | refine W.putC (by with_unfolding_all rfl) ?_ | refine W.ldL (Loc.up (by assumption)) (by with_unfolding_all rfl) ?_ | refine W.ldGL (Loc.up (by assumption)) (Nat.le_of_ble_eq_true (by with_unfolding_all rfl)) ?_ | refine W.len (SlV.up (by assumption)) ?_ | refine W.len (Own.slT (by assumption)) ?_ | refine W.scalS (SlV.up (by assumption)) ?_ | refine W.scalS (Own.slT (by assumption)) ?_ | refine W.ixIc (SlV.up (by assumption)) (by assumption) ?_ | refine W.ixIc (Own.slT (by assumption)) (by assumption) ?_ | refine W.ixBc (Own.slT (by assumption)) (by assumption) ?_ | refine W.mgetT (by assumption) ?_))
    rfl
  repeat' (with_reducible (first | refine W.next ?_ | refine W.stop ?_ | refine W.nextP ?_ | refine W.stopP ?_ | refine W.ret ?_ | refine W.bind ?_ | refine W.asI ?_ | refine W.asB ?_ | refine W.asV ?_ | refine W.asS ?_ | refine W.chk rfl ?_ | refine W.aggK (by with_unfolding_all rfl) ?_ | refine W.fldp ?_ | refine W.fldfld ?_ | refine W.lenN ?_ | refine W.len (by assumption) ?_ | refine W.len (SlV.mono (by assumption) (by assumption)) ?_ | refine W.ldL (by assumption) (by with_unfolding_all rfl) ?_ | refine W.ldp (by assumption) (by with_unfolding_all rfl) ?_ | refine W.ldGL (by assumption) (Nat.le_of_ble_eq_true (by with_unfolding_all rfl)) ?_ | refine W.fldld (by assumption) (by with_unfolding_all rfl) ?_ | refine W.ld0 (by assumption) (by with_unfolding_all rfl) ?_ | refine W.ldGG (by assumption) (by with_unfolding_all rfl) ?_ | refine W.ixIc (by assumption) (by assumption) ?_ | refine W.ixIc (SlV.mono (by assumption) (by assumption)) (by assumption) ?_ | refine W.ixBc (by assumption) (by assumption) ?_ | refine W.nnil ?_ | refine W.inil ?_ | refine W.scalS (by assumption) ?_ | refine W.scalS (SlV.mono (by assumption) (by assumption)) ?_ | refine W.nck ?_ | refine W.scI ?_ | refine W.scB ?_ | refine W.scP ?_ | refine W.scM ?_ | refine W.scN ?_ | refine W.scNp ?_ | refine W.scNi ?_ | refine W.scIf ?_ | refine W.scSl ?_ | refine W.putC (by with_unfolding_all rfl) ?_ | refine W.ldL (Loc.up (by assumption)) (by with_unfolding_all rfl) ?_ | refine W.ldGL (Loc.up (by assumption)) (Nat.le_of_ble_eq_true (by with_unfolding_all rfl)) ?_ | refine W.len (SlV.up (by assumption)) ?_ | refine W.len (Own.slT (by assumption)) ?_ | refine W.scalS (SlV.up (by assumption)) ?_ | refine W.scalS (Own.slT (by assumption)) ?_ | refine W.ixIc (SlV.up (by assumption)) (by assumption) ?_ | refine W.ixIc (Own.slT (by assumption)) (by assumption) ?_ | refine W.ixBc (Own.slT (by assumption)) (by assumption) ?_ | refine W.mgetT (by assumption) ?_))
  (with_reducible refine W.cnd (fun hbig2 => ?_) (fun hbig2 => ?_) <;> (try simp only [q1, q2, q3, q4, q5, q6, q7, q8, q9, q10, q11, q12, q13, q14, q15, q16, q17, q18, q19, q20, q21, q22, q23, q24, q25, q26, q27, q28, q29, q30, Kd.ty] at hbig2) <;> (try (exfalso; omega)))
  · repeat' (with_reducible (first | refine W.next ?_ | refine W.stop ?_ | refine W.nextP ?_ | refine W.stopP ?_ | refine W.ret ?_ | refine W.bind ?_ | refine W.asI ?_ | refine W.asB ?_ | refine W.asV ?_ | refine W.asS ?_ | refine W.chk rfl ?_ | refine W.aggK (by with_unfolding_all rfl) ?_ | refine W.fldp ?_ | refine W.fldfld ?_ | refine W.lenN ?_ | refine W.len (by assumption) ?_ | refine W.len (SlV.mono (by assumption) (by assumption)) ?_ | refine W.ldL (by assumption) (by with_unfolding_all rfl) ?_ | refine W.ldp (by assumption) (by with_unfolding_all rfl) ?_ | refine W.ldGL (by assumption) (Nat.le_of_ble_eq_true (by with_unfolding_all rfl)) ?_ | refine W.fldld (by assumption) (by with_unfolding_all rfl) ?_ | refine W.ld0 (by assumption) (by with_unfolding_all rfl) ?_ | refine W.ldGG (by assumption) (by with_unfolding_all rfl) ?_ | refine W.ixIc (by assumption) (by assumption) ?_ | refine W.ixIc (SlV.mono (by assumption) (by assumption)) (by assumption) ?_ | refine W.ixBc (by assumption) (by assumption) ?_ | refine W.nnil ?_ | refine W.inil ?_ | refine W.scalS (by assumption) ?_ | refine W.scalS (SlV.mono (by assumption) (by assumption)) ?_ | refine W.nck ?_ | refine W.scI ?_ | refine W.scB ?_ | refine W.scP ?_ | refine W.scM ?_ | refine W.scN ?_ | refine W.scNp ?_ | refine W.scNi ?_ | refine W.scIf ?_ | refine W.scSl ?_ | refine W.putC (by with_unfolding_all rfl) ?_ | refine W.ldL (Loc.up (by assumption)) (by with_unfolding_all rfl) ?_ | refine W.ldGL (Loc.up (by assumption)) (Nat.le_of_ble_eq_true (by with_unfolding_all rfl)) ?_ | refine W.len (SlV.up (by assumption)) ?_ | refine W.len (Own.slT (by assumption)) ?_ | refine W.scalS (SlV.up (by assumption)) ?_ | refine W.scalS (Own.slT (by assumption)) ?_ | refine W.ixIc (SlV.up (by assumption)) (by assumption) ?_ | refine W.ixIc (Own.slT (by assumption)) (by assumption) ?_ | refine W.ixBc (Own.slT (by assumption)) (by assumption) ?_ | refine W.mgetT (by assumption) ?_))
    refine W.condT rfl ?_
    repeat' (with_reducible (first | refine W.next ?_ | refine W.stop ?_ | refine W.nextP ?_ | refine W.stopP ?_ | refine W.ret ?_ | refine W.bind ?_ | refine W.asI ?_ | refine W.asB ?_ | refine W.asV ?_ | refine W.asS ?_ | refine W.chk rfl ?_ | refine W.aggK (by with_unfolding_all rfl) ?_ | refine W.fldp ?_ | refine W.fldfld ?_ | refine W.lenN ?_ | refine W.len (by assumption) ?_ | refine W.len (SlV.mono (by assumption) (by assumption)) ?_ | refine W.ldL (by assumption) (by with_unfolding_all rfl) ?_ | refine W.ldp (by assumption) (by with_unfolding_all rfl) ?_ | refine W.ldGL (by assumption) (Nat.le_of_ble_eq_true (by with_unfolding_all rfl)) ?_ | refine W.fldld (by assumption) (by with_unfolding_all rfl) ?_ | refine W.ld0 (by assumption) (by with_unfolding_all rfl) ?_ | refine W.ldGG (by assumption) (by with_unfolding_all rfl) ?_ | refine W.ixIc (by assumption) (by assumption) ?_ | refine W.ixIc (SlV.mono (by assumption) (by assumption)) (by assumption) ?_ | refine W.ixBc (by assumption) (by assumption) ?_ | refine W.nnil ?_ | refine W.inil ?_ | refine W.scalS (by assumption) ?_ | refine W.scalS (SlV.mono (by assumption) (by assumption)) ?_ | refine W.nck ?_ | refine W.scI ?_ | refine W.scB ?_ | refine W.scP ?_ | refine W.scM ?_ | refine W.scN ?_ | refine W.scNp ?_ | refine W.scNi ?_ | refine W.scIf ?_ | refine W.scSl ?_ | refine W.putC (by with_unfolding_all rfl) ?_ | refine W.ldL (Loc.up (by assumption)) (by with_unfolding_all rfl) ?_ | refine W.ldGL (Loc.up (by assumption)) (Nat.le_of_ble_eq_true (by with_unfolding_all rfl)) ?_ | refine W.len (SlV.up (by assumption)) ?_ | refine W.len (Own.slT (by assumption)) ?_ | refine W.scalS (SlV.up (by assumption)) ?_ | refine W.scalS (Own.slT (by assumption)) ?_ | refine W.ixIc (SlV.up (by assumption)) (by assumption) ?_ | refine W.ixIc (Own.slT (by assumption)) (by assumption) ?_ | refine W.ixBc (Own.slT (by assumption)) (by assumption) ?_ | refine W.mgetT (by assumption) ?_))
    rfl
  repeat' (with_reducible (first | refine W.next ?_ | refine W.stop ?_ | refine W.nextP ?_ | refine W.stopP ?_ | refine W.ret ?_ | refine W.bind ?_ | refine W.asI ?_ | refine W.asB ?_ | refine W.asV ?_ | refine W.asS ?_ | refine W.chk rfl ?_ | refine W.aggK (by with_unfolding_all rfl) ?_ | refine W.fldp ?_ | refine W.fldfld ?_ | refine W.lenN ?_ | refine W.len (by assumption) ?_ | refine W.len (SlV.mono (by assumption) (by assumption)) ?_ | refine W.ldL (by assumption) (by with_unfolding_all rfl) ?_ | refine W.ldp (by assumption) (by with_unfolding_all rfl) ?_ | refine W.ldGL (by assumption) (Nat.le_of_ble_eq_true (by with_unfolding_all rfl)) ?_ | refine W.fldld (by assumption) (by with_unfolding_all rfl) ?_ | refine W.ld0 (by assumption) (by with_unfolding_all rfl) ?_ | refine W.ldGG (by assumption) (by with_unfolding_all rfl) ?_ | refine W.ixIc (by assumption) (by assumption) ?_ | refine W.ixIc (SlV.mono (by assumption) (by assumption)) (by assumption) ?_ | refine W.ixBc (by assumption) (by assumption) ?_ | refine W.nnil ?_ | refine W.inil ?_ | refine W.scalS (by assumption) ?_ | refine W.scalS (SlV.mono (by assumption) (by assumption)) ?_ | refine W.nck ?_ | refine W.scI ?_ | refine W.scB ?_ | refine W.scP ?_ | refine W.scM ?_ | refine W.scN ?_ | refine W.scNp ?_ | refine W.scNi ?_ | refine W.scIf ?_ | refine W.scSl ?_ | refine W.putC (by with_unfolding_all rfl) ?_ | refine W.ldL (Loc.up (by assumption)) (by with_unfolding_all rfl) ?_ | refine W.ldGL (Loc.up (by assumption)) (Nat.le_of_ble_eq_true (by with_unfolding_all rfl)) ?_ | refine W.len (SlV.up (by assumption)) ?_ | refine W.len (Own.slT (by assumption)) ?_ | refine W.scalS (SlV.up (by assumption)) ?_ | refine W.scalS (Own.slT (by assumption)) ?_ | refine W.ixIc (SlV.up (by assumption)) (by assumption) ?_ | refine W.ixIc (Own.slT (by assumption)) (by assumption) ?_ | refine W.ixBc (Own.slT (by assumption)) (by assumption) ?_ | refine W.mgetT (by assumption) ?_))
  (with_reducible refine W.cnd (fun hbig3 => ?_) (fun hbig3 => ?_) <;> (try simp only [q1, q2, q3, q4, q5, q6, q7, q8, q9, q10, q11, q12, q13, q14, q15, q16, q17, q18, q19, q20, q21, q22, q23, q24, q25, q26, q27, q28, q29, q30, Kd.ty] at hbig3) <;> (try (exfalso; omega)))
  · repeat' (with_reducible (first | refine W.next ?_ | refine W.stop ?_ | refine W.nextP ?_ | refine W.stopP ?_ | refine W.ret ?_ | refine W.bind ?_ | refine W.asI ?_ | refine W.asB ?_ | refine W.asV ?_ | refine W.asS ?_ | refine W.chk rfl ?_ | refine W.aggK (by with_unfolding_all rfl) ?_ | refine W.fldp ?_ | refine W.fldfld ?_ | refine W.lenN ?_ | refine W.len (by assumption) ?_ | refine W.len (SlV.mono (by assumption) (by assumption)) ?_ | refine W.ldL (by assumption) (by with_unfolding_all rfl) ?_ | refine W.ldp (by assumption) (by with_unfolding_all rfl) ?_ | refine W.ldGL (by assumption) (Nat.le_of_ble_eq_true (by with_unfolding_all rfl)) ?_ | refine W.fldld (by assumption) (by with_unfolding_all rfl) ?_ | refine W.ld0 (by assumption) (by with_unfolding_all rfl) ?_ | refine W.ldGG (by assumption) (by with_unfolding_all rfl) ?_ | refine W.ixIc (by assumption) (by assumption) ?_ | refine W.ixIc (SlV.mono (by assumption) (by assumption)) (by assumption) ?_ | refine W.ixBc (by assumption) (by assumption) ?_ | refine W.nnil ?_ | refine W.inil ?_ | refine W.scalS (by assumption) ?_ | refine W.scalS (SlV.mono (by assumption) (by assumption)) ?_ | refine W.nck ?_ | refine W.scI ?_ | refine W.scB ?_ | refine W.scP ?_ | refine W.scM ?_ | refine W.scN ?_ | refine W.scNp ?_ | refine W.scNi ?_ | refine W.scIf ?_ | refine W.scSl ?_ | refine W.putC (by with_unfolding_all rfl) ?_ | refine W.ldL (Loc.up (by assumption)) (by with_unfolding_all rfl) ?_ | refine W.ldGL (Loc.up (by assumption)) (Nat.le_of_ble_eq_true (by with_unfolding_all rfl)) ?_ | refine W.len (SlV.up (by assumption)) ?_ | refine W.len (Own.slT (by assumption)) ?_ | refine W.scalS (SlV.up (by assumption)) ?_ | refine W.scalS (Own.slT (by assumption)) ?_ | refine W.ixIc (SlV.up (by assumption)) (by assumption) ?_ | refine W.ixIc (Own.slT (by assumption)) (by assumption) ?_ | refine W.ixBc (Own.slT (by assumption)) (by assumption) ?_ | refine W.mgetT (by assumption) ?_))
    refine W.condT rfl ?_
    repeat' (with_reducible (first | refine W.next ?_ | refine W.stop ?_ | refine W.nextP ?_ | refine W.stopP ?_ | refine W.ret ?_ | refine W.bind ?_ | refine W.asI ?_ | refine W.asB ?_ | refine W.asV ?_ | refine W.asS ?_ | refine W.chk rfl ?_ | refine W.aggK (by with_unfolding_all rfl) ?_ | refine W.fldp ?_ | refine W.fldfld ?_ | refine W.lenN ?_ | refine W.len (by assumption) ?_ | refine W.len (SlV.mono (by assumption) (by assumption)) ?_ | refine W.ldL (by assumption) (by with_unfolding_all rfl) ?_ | refine W.ldp (by assumption) (by with_unfolding_all rfl) ?_ | refine W.ldGL (by assumption) (Nat.le_of_ble_eq_true (by with_unfolding_all rfl)) ?_ | refine W.fldld (by assumption) (by with_unfolding_all rfl) ?_ | refine W.ld0 (by assumption) (by with_unfolding_all rfl) ?_ | refine W.ldGG (by assumption) (by with_unfolding_all rfl) ?_ | refine W.ixIc (by assumption) (by assumption) ?_ | refine W.ixIc (SlV.mono (by assumption) (by assumption)) (by assumption) ?_ | refine W.ixBc (by assumption) (by assumption) ?_ | refine W.nnil ?_ | refine W.inil ?_ | refine W.scalS (by assumption) ?_ | refine W.scalS (SlV.mono (by assumption) (by assumption)) ?_ | refine W.nck ?_ | refine W.scI ?_ | refine W.scB ?_ | refine W.scP ?_ | refine W.scM ?_ | refine W.scN ?_ | refine W.scNp ?_ | refine W.scNi ?_ | refine W.scIf ?_ | refine W.scSl ?_ | refine W.putC (by with_unfolding_all rfl) ?_ | refine W.ldL (Loc.up (by assumption)) (by with_unfolding_all rfl) ?_ | refine W.ldGL (Loc.up (by assumption)) (Nat.le_of_ble_eq_true (by with_unfolding_all rfl)) ?_ | refine W.len (SlV.up (by assumption)) ?_ | refine W.len (Own.slT (by assumption)) ?_ | refine W.scalS (SlV.up (by assumption)) ?_ | refine W.scalS (Own.slT (by assumption)) ?_ | refine W.ixIc (SlV.up (by assumption)) (by assumption) ?_ | refine W.ixIc (Own.slT (by assumption)) (by assumption) ?_ | refine W.ixBc (Own.slT (by assumption)) (by assumption) ?_ | refine W.mgetT (by assumption) ?_))
    rfl
  repeat' (with_reducible (first | refine W.next ?_ | refine W.stop ?_ | refine W.nextP ?_ | refine W.stopP ?_ | refine W.ret ?_ | refine W.bind ?_ | refine W.asI ?_ | refine W.asB ?_ | refine W.asV ?_ | refine W.asS ?_ | refine W.chk rfl ?_ | refine W.aggK (by with_unfolding_all rfl) ?_ | refine W.fldp ?_ | refine W.fldfld ?_ | refine W.lenN ?_ | refine W.len (by assumption) ?_ | refine W.len (SlV.mono (by assumption) (by assumption)) ?_ | refine W.ldL (by assumption) (by with_unfolding_all rfl) ?_ | refine W.ldp (by assumption) (by with_unfolding_all rfl) ?_ | refine W.ldGL (by assumption) (Nat.le_of_ble_eq_true (by with_unfolding_all rfl)) ?_ | refine W.fldld (by assumption) (by with_unfolding_all rfl) ?_ | refine W.ld0 (by assumption) (by with_unfolding_all rfl) ?_ | refine W.ldGG (by assumption) (by with_unfolding_all rfl) ?_ | refine W.ixIc (by assumption) (by assumption) ?_ | refine W.ixIc (SlV.mono (by assumption) (by assumption)) (by assumption) ?_ | refine W.ixBc (by assumption) (by assumption) ?_ | refine W.nnil ?_ | refine W.inil ?_ | refine W.scalS (by assumption) ?_ | refine W.scalS (SlV.mono (by assumption) (by assumption)) ?_ | refine W.nck ?_ | refine W.scI ?_ | refine W.scB ?_ | refine W.scP ?_ | refine W.scM ?_ | refine W.scN ?_ | refine W.scNp ?_ | refine W.scNi ?_ | refine W.scIf ?_ | refine W.scSl ?_ | refine W.putC (by with_unfolding_all rfl) ?_ | refine W.ldL (Loc.up (by assumption)) (by with_unfolding_all rfl) ?_ | refine W.ldGL (Loc.up (by assumption)) (Nat.le_of_ble_eq_true (by with_unfolding_all rfl)) ?_ | refine W.len (SlV.up (by assumption)) ?_ | refine W.len (Own.slT (by assumption)) ?_ | refine W.scalS (SlV.up (by assumption)) ?_ | refine W.scalS (Own.slT (by assumption)) ?_ | refine W.ixIc (SlV.up (by assumption)) (by assumption) ?_ | refine W.ixIc (Own.slT (by assumption)) (by assumption) ?_ | refine W.ixBc (Own.slT (by assumption)) (by assumption) ?_ | refine W.mgetT (by assumption) ?_))
  (with_reducible refine W.cnd (fun hbig4 => ?_) (fun hbig4 => ?_) <;> (try simp only [q1, q2, q3, q4, q5, q6, q7, q8, q9, q10, q11, q12, q13, q14, q15, q16, q17, q18, q19, q20, q21, q22, q23, q24, q25, q26, q27, q28, q29, q30, Kd.ty] at hbig4) <;> (try (exfalso; omega)))
  · repeat' (with_reducible (first | refine W.next ?_ | refine W.stop ?_ | refine W.nextP ?_ | refine W.stopP ?_ | refine W.ret ?_ | refine W.bind ?_ | refine W.asI ?_ | refine W.asB ?_ | refine W.asV ?_ | refine W.asS ?_ | refine W.chk rfl ?_ | refine W.aggK (by with_unfolding_all rfl) ?_ | refine W.fldp ?_ | refine W.fldfld ?_ | refine W.lenN ?_ | refine W.len (by assumption) ?_ | refine W.len (SlV.mono (by assumption) (by assumption)) ?_ | refine W.ldL (by assumption) (by with_unfolding_all rfl) ?_ | refine W.ldp (by assumption) (by with_unfolding_all rfl) ?_ | refine W.ldGL (by assumption) (Nat.le_of_ble_eq_true (by with_unfolding_all rfl)) ?_ | refine W.fldld (by assumption) (by with_unfolding_all rfl) ?_ | refine W.ld0 (by assumption) (by with_unfolding_all rfl) ?_ | refine W.ldGG (by assumption) (by with_unfolding_all rfl) ?_ | refine W.ixIc (by assumption) (by assumption) ?_ | refine W.ixIc (SlV.mono (by assumption) (by assumption)) (by assumption) ?_ | refine W.ixBc (by assumption) (by assumption) ?_ | refine W.nnil ?_ | refine W.inil ?_ | refine W.scalS (by assumption) ?_ | refine W.scalS (SlV.mono (by assumption) (by assumption)) ?_ | refine W.nck ?_ | refine W.scI ?_ | refine W.scB ?_ | refine W.scP ?_ | refine W.scM ?_ | refine W.scN ?_ | refine W.scNp ?_ | refine W.scNi ?_ | refine W.scIf ?_ | refine W.scSl ?_ | refine W.putC (by with_unfolding_all rfl) ?_ | refine W.ldL (Loc.up (by assumption)) (by with_unfolding_all rfl) ?_ | refine W.ldGL (Loc.up (by assumption)) (Nat.le_of_ble_eq_true (by with_unfolding_all rfl)) ?_ | refine W.len (SlV.up (by assumption)) ?_ | refine W.len (Own.slT (by assumption)) ?_ | refine W.scalS (SlV.up (by assumption)) ?_ | refine W.scalS (Own.slT (by assumption)) ?_ | refine W.ixIc (SlV.up (by assumption)) (by assumption) ?_ | refine W.ixIc (Own.slT (by assumption)) (by assumption) ?_ | refine W.ixBc (Own.slT (by assumption)) (by assumption) ?_ | refine W.mgetT (by assumption) ?_))
    refine W.condT rfl ?_
    repeat' (with_reducible (first | refine W.next ?_ | refine W.stop ?_ | refine W.nextP ?_ | refine W.stopP ?_ | refine W.ret ?_ | refine W.bind ?_ | refine W.asI ?_ | refine W.asB ?_ | refine W.asV ?_ | refine W.asS ?_ | refine W.chk rfl ?_ | refine W.aggK (by with_unfolding_all rfl) ?_ | refine W.fldp ?_ | refine W.fldfld ?_ | refine W.lenN ?_ | refine W.len (by assumption) ?_ | refine W.len (SlV.mono (by assumption) (by assumption)) ?_ | refine W.ldL (by assumption) (by with_unfolding_all rfl) ?_ | refine W.ldp (by assumption) (by with_unfolding_all rfl) ?_ | refine W.ldGL (by assumption) (Nat.le_of_ble_eq_true (by with_unfolding_all rfl)) ?_ | refine W.fldld (by assumption) (by with_unfolding_all rfl) ?_ | refine W.ld0 (by assumption) (by with_unfolding_all rfl) ?_ | refine W.ldGG (by assumption) (by with_unfolding_all rfl) ?_ | refine W.ixIc (by assumption) (by assumption) ?_ | refine W.ixIc (SlV.mono (by assumption) (by assumption)) (by assumption) ?_ | refine W.ixBc (by assumption) (by assumption) ?_ | refine W.nnil ?_ | refine W.inil ?_ | refine W.scalS (by assumption) ?_ | refine W.scalS (SlV.mono (by assumption) (by assumption)) ?_ | refine W.nck ?_ | refine W.scI ?_ | refine W.scB ?_ | refine W.scP ?_ | refine W.scM ?_ | refine W.scN ?_ | refine W.scNp ?_ | refine W.scNi ?_ | refine W.scIf ?_ | refine W.scSl ?_ | refine W.putC (by with_unfolding_all rfl) ?_ | refine W.ldL (Loc.up (by assumption)) (by with_unfolding_all rfl) ?_ | refine W.ldGL (Loc.up (by assumption)) (Nat.le_of_ble_eq_true (by with_unfolding_all rfl)) ?_ | refine W.len (SlV.up (by assumption)) ?_ | refine W.len (Own.slT (by assumption)) ?_ | refine W.scalS (SlV.up (by assumption)) ?_ | refine W.scalS (Own.slT (by assumption)) ?_ | refine W.ixIc (SlV.up (by assumption)) (by assumption) ?_ | refine W.ixIc (Own.slT (by assumption)) (by assumption) ?_ | refine W.ixBc (Own.slT (by assumption)) (by assumption) ?_ | refine W.mgetT (by assumption) ?_))
    rfl
  repeat' (with_reducible (first | refine W.next ?_ | refine W.stop ?_ | refine W.nextP ?_ | refine W.stopP ?_ | refine W.ret ?_ | refine W.bind ?_ | refine W.asI ?_ | refine W.asB ?_ | refine W.asV ?_ | refine W.asS ?_ | refine W.chk rfl ?_ | refine W.aggK (by with_unfolding_all rfl) ?_ | refine W.fldp ?_ | refine W.fldfld ?_ | refine W.lenN ?_ | refine W.len (by assumption) ?_ | refine W.len (SlV.mono (by assumption) (by assumption)) ?_ | refine W.ldL (by assumption) (by with_unfolding_all rfl) ?_ | refine W.ldp (by assumption) (by with_unfolding_all rfl) ?_ | refine W.ldGL (by assumption) (Nat.le_of_ble_eq_true (by with_unfolding_all rfl)) ?_ | refine W.fldld (by assumption) (by with_unfolding_all rfl) ?_ | refine W.ld0 (by assumption) (by with_unfolding_all rfl) ?_ | refine W.ldGG (by assumption) (by with_unfolding_all rfl) ?_ | refine W.ixIc (by assumption) (by assumption) ?_ | refine W.ixIc (SlV.mono (by assumption) (by assumption)) (by assumption) ?_ | refine W.ixBc (by assumption) (by assumption) ?_ | refine W.nnil ?_ | refine W.inil ?_ | refine W.scalS (by assumption) ?_ | refine W.scalS (SlV.mono (by assumption) (by assumption)) ?_ | refine W.nck ?_ | refine W.scI ?_ | refine W.scB ?_ | refine W.scP ?_ | refine W.scM ?_ | refine W.scN ?_ | refine W.scNp ?_ | refine W.scNi ?_ | refine W.scIf ?_ | refine W.scSl ?_ | refine W.putC (by with_unfolding_all rfl) ?_ | refine W.ldL (Loc.up (by assumption)) (by with_unfolding_all rfl) ?_ | refine W.ldGL (Loc.up (by assumption)) (Nat.le_of_ble_eq_true (by with_unfolding_all rfl)) ?_ | refine W.len (SlV.up (by assumption)) ?_ | refine W.len (Own.slT (by assumption)) ?_ | refine W.scalS (SlV.up (by assumption)) ?_ | refine W.scalS (Own.slT (by assumption)) ?_ | refine W.ixIc (SlV.up (by assumption)) (by assumption) ?_ | refine W.ixIc (Own.slT (by assumption)) (by assumption) ?_ | refine W.ixBc (Own.slT (by assumption)) (by assumption) ?_ | refine W.mgetT (by assumption) ?_))
  refine W.mono (small_w hx.up) fun r hr => ?_
  obtain ⟨r, τ3⟩ := r
  obtain ⟨er, L3⟩ := hr
  dsimp only at er L3 ⊢
  replace hl := hl.hle L3
  replace hput := hput.hle L3
  replace hby := hby.hle L3
  replace hbad := hbad.hle L3
  replace hx := hx.hle L3
  replace k2 := k2.hle L3
  replace hg := hg.hle L3
  replace hn := hn.mono L3
  repeat' (with_reducible (first | refine W.next ?_ | refine W.stop ?_ | refine W.nextP ?_ | refine W.stopP ?_ | refine W.ret ?_ | refine W.bind ?_ | refine W.asI ?_ | refine W.asB ?_ | refine W.asV ?_ | refine W.asS ?_ | refine W.chk rfl ?_ | refine W.aggK (by with_unfolding_all rfl) ?_ | refine W.fldp ?_ | refine W.fldfld ?_ | refine W.lenN ?_ | refine W.len (by assumption) ?_ | refine W.len (SlV.mono (by assumption) (by assumption)) ?_ | refine W.ldL (by assumption) (by with_unfolding_all rfl) ?_ | refine W.ldp (by assumption) (by with_unfolding_all rfl) ?_ | refine W.ldGL (by assumption) (Nat.le_of_ble_eq_true (by with_unfolding_all rfl)) ?_ | refine W.fldld (by assumption) (by with_unfolding_all rfl) ?_ | refine W.ld0 (by assumption) (by with_unfolding_all rfl) ?_ | refine W.ldGG (by assumption) (by with_unfolding_all rfl) ?_ | refine W.ixIc (by assumption) (by assumption) ?_ | refine W.ixIc (SlV.mono (by assumption) (by assumption)) (by assumption) ?_ | refine W.ixBc (by assumption) (by assumption) ?_ | refine W.nnil ?_ | refine W.inil ?_ | refine W.scalS (by assumption) ?_ | refine W.scalS (SlV.mono (by assumption) (by assumption)) ?_ | refine W.nck ?_ | refine W.scI ?_ | refine W.scB ?_ | refine W.scP ?_ | refine W.scM ?_ | refine W.scN ?_ | refine W.scNp ?_ | refine W.scNi ?_ | refine W.scIf ?_ | refine W.scSl ?_ | refine W.putC (by with_unfolding_all rfl) ?_ | refine W.ldL (Loc.up (by assumption)) (by with_unfolding_all rfl) ?_ | refine W.ldGL (Loc.up (by assumption)) (Nat.le_of_ble_eq_true (by with_unfolding_all rfl)) ?_ | refine W.len (SlV.up (by assumption)) ?_ | refine W.len (Own.slT (by assumption)) ?_ | refine W.scalS (SlV.up (by assumption)) ?_ | refine W.scalS (Own.slT (by assumption)) ?_ | refine W.ixIc (SlV.up (by assumption)) (by assumption) ?_ | refine W.ixIc (Own.slT (by assumption)) (by assumption) ?_ | refine W.ixBc (Own.slT (by assumption)) (by assumption) ?_ | refine W.mgetT (by assumption) ?_))
  by_cases hsm : ¬ ScS sc
  · have : r = false := by
      cases r
      · rfl
      · exact absurd (er.1 rfl) hsm
    subst this
    refine W.condT rfl ?_
    repeat' (with_reducible (first | refine W.next ?_ | refine W.stop ?_ | refine W.nextP ?_ | refine W.stopP ?_ | refine W.ret ?_ | refine W.bind ?_ | refine W.asI ?_ | refine W.asB ?_ | refine W.asV ?_ | refine W.asS ?_ | refine W.chk rfl ?_ | refine W.aggK (by with_unfolding_all rfl) ?_ | refine W.fldp ?_ | refine W.fldfld ?_ | refine W.lenN ?_ | refine W.len (by assumption) ?_ | refine W.len (SlV.mono (by assumption) (by assumption)) ?_ | refine W.ldL (by assumption) (by with_unfolding_all rfl) ?_ | refine W.ldp (by assumption) (by with_unfolding_all rfl) ?_ | refine W.ldGL (by assumption) (Nat.le_of_ble_eq_true (by with_unfolding_all rfl)) ?_ | refine W.fldld (by assumption) (by with_unfolding_all rfl) ?_ | refine W.ld0 (by assumption) (by with_unfolding_all rfl) ?_ | refine W.ldGG (by assumption) (by with_unfolding_all rfl) ?_ | refine W.ixIc (by assumption) (by assumption) ?_ | refine W.ixIc (SlV.mono (by assumption) (by assumption)) (by assumption) ?_ | refine W.ixBc (by assumption) (by assumption) ?_ | refine W.nnil ?_ | refine W.inil ?_ | refine W.scalS (by assumption) ?_ | refine W.scalS (SlV.mono (by assumption) (by assumption)) ?_ | refine W.nck ?_ | refine W.scI ?_ | refine W.scB ?_ | refine W.scP ?_ | refine W.scM ?_ | refine W.scN ?_ | refine W.scNp ?_ | refine W.scNi ?_ | refine W.scIf ?_ | refine W.scSl ?_ | refine W.putC (by with_unfolding_all rfl) ?_ | refine W.ldL (Loc.up (by assumption)) (by with_unfolding_all rfl) ?_ | refine W.ldGL (Loc.up (by assumption)) (Nat.le_of_ble_eq_true (by with_unfolding_all rfl)) ?_ | refine W.len (SlV.up (by assumption)) ?_ | refine W.len (Own.slT (by assumption)) ?_ | refine W.scalS (SlV.up (by assumption)) ?_ | refine W.scalS (Own.slT (by assumption)) ?_ | refine W.ixIc (SlV.up (by assumption)) (by assumption) ?_ | refine W.ixIc (Own.slT (by assumption)) (by assumption) ?_ | refine W.ixBc (Own.slT (by assumption)) (by assumption) ?_ | refine W.mgetT (by assumption) ?_))
    refine W.condT rfl ?_
    repeat' (with_reducible (first | refine W.next ?_ | refine W.stop ?_ | refine W.nextP ?_ | refine W.stopP ?_ | refine W.ret ?_ | refine W.bind ?_ | refine W.asI ?_ | refine W.asB ?_ | refine W.asV ?_ | refine W.asS ?_ | refine W.chk rfl ?_ | refine W.aggK (by with_unfolding_all rfl) ?_ | refine W.fldp ?_ | refine W.fldfld ?_ | refine W.lenN ?_ | refine W.len (by assumption) ?_ | refine W.len (SlV.mono (by assumption) (by assumption)) ?_ | refine W.ldL (by assumption) (by with_unfolding_all rfl) ?_ | refine W.ldp (by assumption) (by with_unfolding_all rfl) ?_ | refine W.ldGL (by assumption) (Nat.le_of_ble_eq_true (by with_unfolding_all rfl)) ?_ | refine W.fldld (by assumption) (by with_unfolding_all rfl) ?_ | refine W.ld0 (by assumption) (by with_unfolding_all rfl) ?_ | refine W.ldGG (by assumption) (by with_unfolding_all rfl) ?_ | refine W.ixIc (by assumption) (by assumption) ?_ | refine W.ixIc (SlV.mono (by assumption) (by assumption)) (by assumption) ?_ | refine W.ixBc (by assumption) (by assumption) ?_ | refine W.nnil ?_ | refine W.inil ?_ | refine W.scalS (by assumption) ?_ | refine W.scalS (SlV.mono (by assumption) (by assumption)) ?_ | refine W.nck ?_ | refine W.scI ?_ | refine W.scB ?_ | refine W.scP ?_ | refine W.scM ?_ | refine W.scN ?_ | refine W.scNp ?_ | refine W.scNi ?_ | refine W.scIf ?_ | refine W.scSl ?_ | refine W.putC (by with_unfolding_all rfl) ?_ | refine W.ldL (Loc.up (by assumption)) (by with_unfolding_all rfl) ?_ | refine W.ldGL (Loc.up (by assumption)) (Nat.le_of_ble_eq_true (by with_unfolding_all rfl)) ?_ | refine W.len (SlV.up (by assumption)) ?_ | refine W.len (Own.slT (by assumption)) ?_ | refine W.scalS (SlV.up (by assumption)) ?_ | refine W.scalS (Own.slT (by assumption)) ?_ | refine W.ixIc (SlV.up (by assumption)) (by assumption) ?_ | refine W.ixIc (Own.slT (by assumption)) (by assumption) ?_ | refine W.ixBc (Own.slT (by assumption)) (by assumption) ?_ | refine W.mgetT (by assumption) ?_))
    rfl
  replace hsm := Classical.not_not.1 hsm
  obtain rfl : r = true := er.2 hsm
  refine W.condF rfl ?_
  refine W.bind ?_
  refine W.mono (nearA_w hby.up (by omega)) fun r hr1 => ?_
  cases r with
  | false =>
    refine W.condT rfl ?_
    repeat' (with_reducible (first | refine W.next ?_ | refine W.stop ?_ | refine W.nextP ?_ | refine W.stopP ?_ | refine W.ret ?_ | refine W.bind ?_ | refine W.asI ?_ | refine W.asB ?_ | refine W.asV ?_ | refine W.asS ?_ | refine W.chk rfl ?_ | refine W.aggK (by with_unfolding_all rfl) ?_ | refine W.fldp ?_ | refine W.fldfld ?_ | refine W.lenN ?_ | refine W.len (by assumption) ?_ | refine W.len (SlV.mono (by assumption) (by assumption)) ?_ | refine W.ldL (by assumption) (by with_unfolding_all rfl) ?_ | refine W.ldp (by assumption) (by with_unfolding_all rfl) ?_ | refine W.ldGL (by assumption) (Nat.le_of_ble_eq_true (by with_unfolding_all rfl)) ?_ | refine W.fldld (by assumption) (by with_unfolding_all rfl) ?_ | refine W.ld0 (by assumption) (by with_unfolding_all rfl) ?_ | refine W.ldGG (by assumption) (by with_unfolding_all rfl) ?_ | refine W.ixIc (by assumption) (by assumption) ?_ | refine W.ixIc (SlV.mono (by assumption) (by assumption)) (by assumption) ?_ | refine W.ixBc (by assumption) (by assumption) ?_ | refine W.nnil ?_ | refine W.inil ?_ | refine W.scalS (by assumption) ?_ | refine W.scalS (SlV.mono (by assumption) (by assumption)) ?_ | refine W.nck ?_ | refine W.scI ?_ | refine W.scB ?_ | refine W.scP ?_ | refine W.scM ?_ | refine W.scN ?_ | refine W.scNp ?_ | refine W.scNi ?_ | refine W.scIf ?_ | refine W.scSl ?_ | refine W.putC (by with_unfolding_all rfl) ?_ | refine W.ldL (Loc.up (by assumption)) (by with_unfolding_all rfl) ?_ | refine W.ldGL (Loc.up (by assumption)) (Nat.le_of_ble_eq_true (by with_unfolding_all rfl)) ?_ | refine W.len (SlV.up (by assumption)) ?_ | refine W.len (Own.slT (by assumption)) ?_ | refine W.scalS (SlV.up (by assumption)) ?_ | refine W.scalS (Own.slT (by assumption)) ?_ | refine W.ixIc (SlV.up (by assumption)) (by assumption) ?_ | refine W.ixIc (Own.slT (by assumption)) (by assumption) ?_ | refine W.ixBc (Own.slT (by assumption)) (by assumption) ?_ | refine W.mgetT (by assumption) ?_))
    refine W.condT rfl ?_
    repeat' (with_reducible (first | refine W.next ?_ | refine W.stop ?_ | refine W.nextP ?_ | refine W.stopP ?_ | refine W.ret ?_ | refine W.bind ?_ | refine W.asI ?_ | refine W.asB ?_ | refine W.asV ?_ | refine W.asS ?_ | refine W.chk rfl ?_ | refine W.aggK (by with_unfolding_all rfl) ?_ | refine W.fldp ?_ | refine W.fldfld ?_ | refine W.lenN ?_ | refine W.len (by assumption) ?_ | refine W.len (SlV.mono (by assumption) (by assumption)) ?_ | refine W.ldL (by assumption) (by with_unfolding_all rfl) ?_ | refine W.ldp (by assumption) (by with_unfolding_all rfl) ?_ | refine W.ldGL (by assumption) (Nat.le_of_ble_eq_true (by with_unfolding_all rfl)) ?_ | refine W.fldld (by assumption) (by with_unfolding_all rfl) ?_ | refine W.ld0 (by assumption) (by with_unfolding_all rfl) ?_ | refine W.ldGG (by assumption) (by with_unfolding_all rfl) ?_ | refine W.ixIc (by assumption) (by assumption) ?_ | refine W.ixIc (SlV.mono (by assumption) (by assumption)) (by assumption) ?_ | refine W.ixBc (by assumption) (by assumption) ?_ | refine W.nnil ?_ | refine W.inil ?_ | refine W.scalS (by assumption) ?_ | refine W.scalS (SlV.mono (by assumption) (by assumption)) ?_ | refine W.nck ?_ | refine W.scI ?_ | refine W.scB ?_ | refine W.scP ?_ | refine W.scM ?_ | refine W.scN ?_ | refine W.scNp ?_ | refine W.scNi ?_ | refine W.scIf ?_ | refine W.scSl ?_ | refine W.putC (by with_unfolding_all rfl) ?_ | refine W.ldL (Loc.up (by assumption)) (by with_unfolding_all rfl) ?_ | refine W.ldGL (Loc.up (by assumption)) (Nat.le_of_ble_eq_true (by with_unfolding_all rfl)) ?_ | refine W.len (SlV.up (by assumption)) ?_ | refine W.len (Own.slT (by assumption)) ?_ | refine W.scalS (SlV.up (by assumption)) ?_ | refine W.scalS (Own.slT (by assumption)) ?_ | refine W.ixIc (SlV.up (by assumption)) (by assumption) ?_ | refine W.ixIc (Own.slT (by assumption)) (by assumption) ?_ | refine W.ixBc (Own.slT (by assumption)) (by assumption) ?_ | refine W.mgetT (by assumption) ?_))
    rfl
  | true =>
  replace hr1 := hr1 rfl
  refine W.condF rfl ?_
  refine W.bind ?_
  refine W.mono (nearA_w hbad.up (by omega)) fun r hr2 => ?_
  cases r with
  | false =>
    repeat' (with_reducible (first | refine W.next ?_ | refine W.stop ?_ | refine W.nextP ?_ | refine W.stopP ?_ | refine W.ret ?_ | refine W.bind ?_ | refine W.asI ?_ | refine W.asB ?_ | refine W.asV ?_ | refine W.asS ?_ | refine W.chk rfl ?_ | refine W.aggK (by with_unfolding_all rfl) ?_ | refine W.fldp ?_ | refine W.fldfld ?_ | refine W.lenN ?_ | refine W.len (by assumption) ?_ | refine W.len (SlV.mono (by assumption) (by assumption)) ?_ | refine W.ldL (by assumption) (by with_unfolding_all rfl) ?_ | refine W.ldp (by assumption) (by with_unfolding_all rfl) ?_ | refine W.ldGL (by assumption) (Nat.le_of_ble_eq_true (by with_unfolding_all rfl)) ?_ | refine W.fldld (by assumption) (by with_unfolding_all rfl) ?_ | refine W.ld0 (by assumption) (by with_unfolding_all rfl) ?_ | refine W.ldGG (by assumption) (by with_unfolding_all rfl) ?_ | refine W.ixIc (by assumption) (by assumption) ?_ | refine W.ixIc (SlV.mono (by assumption) (by assumption)) (by assumption) ?_ | refine W.ixBc (by assumption) (by assumption) ?_ | refine W.nnil ?_ | refine W.inil ?_ | refine W.scalS (by assumption) ?_ | refine W.scalS (SlV.mono (by assumption) (by assumption)) ?_ | refine W.nck ?_ | refine W.scI ?_ | refine W.scB ?_ | refine W.scP ?_ | refine W.scM ?_ | refine W.scN ?_ | refine W.scNp ?_ | refine W.scNi ?_ | refine W.scIf ?_ | refine W.scSl ?_ | refine W.putC (by with_unfolding_all rfl) ?_ | refine W.ldL (Loc.up (by assumption)) (by with_unfolding_all rfl) ?_ | refine W.ldGL (Loc.up (by assumption)) (Nat.le_of_ble_eq_true (by with_unfolding_all rfl)) ?_ | refine W.len (SlV.up (by assumption)) ?_ | refine W.len (Own.slT (by assumption)) ?_ | refine W.scalS (SlV.up (by assumption)) ?_ | refine W.scalS (Own.slT (by assumption)) ?_ | refine W.ixIc (SlV.up (by assumption)) (by assumption) ?_ | refine W.ixIc (Own.slT (by assumption)) (by assumption) ?_ | refine W.ixBc (Own.slT (by assumption)) (by assumption) ?_ | refine W.mgetT (by assumption) ?_))
    refine W.condT rfl ?_
    repeat' (with_reducible (first | refine W.next ?_ | refine W.stop ?_ | refine W.nextP ?_ | refine W.stopP ?_ | refine W.ret ?_ | refine W.bind ?_ | refine W.asI ?_ | refine W.asB ?_ | refine W.asV ?_ | refine W.asS ?_ | refine W.chk rfl ?_ | refine W.aggK (by with_unfolding_all rfl) ?_ | refine W.fldp ?_ | refine W.fldfld ?_ | refine W.lenN ?_ | refine W.len (by assumption) ?_ | refine W.len (SlV.mono (by assumption) (by assumption)) ?_ | refine W.ldL (by assumption) (by with_unfolding_all rfl) ?_ | refine W.ldp (by assumption) (by with_unfolding_all rfl) ?_ | refine W.ldGL (by assumption) (Nat.le_of_ble_eq_true (by with_unfolding_all rfl)) ?_ | refine W.fldld (by assumption) (by with_unfolding_all rfl) ?_ | refine W.ld0 (by assumption) (by with_unfolding_all rfl) ?_ | refine W.ldGG (by assumption) (by with_unfolding_all rfl) ?_ | refine W.ixIc (by assumption) (by assumption) ?_ | refine W.ixIc (SlV.mono (by assumption) (by assumption)) (by assumption) ?_ | refine W.ixBc (by assumption) (by assumption) ?_ | refine W.nnil ?_ | refine W.inil ?_ | refine W.scalS (by assumption) ?_ | refine W.scalS (SlV.mono (by assumption) (by assumption)) ?_ | refine W.nck ?_ | refine W.scI ?_ | refine W.scB ?_ | refine W.scP ?_ | refine W.scM ?_ | refine W.scN ?_ | refine W.scNp ?_ | refine W.scNi ?_ | refine W.scIf ?_ | refine W.scSl ?_ | refine W.putC (by with_unfolding_all rfl) ?_ | refine W.ldL (Loc.up (by assumption)) (by with_unfolding_all rfl) ?_ | refine W.ldGL (Loc.up (by assumption)) (Nat.le_of_ble_eq_true (by with_unfolding_all rfl)) ?_ | refine W.len (SlV.up (by assumption)) ?_ | refine W.len (Own.slT (by assumption)) ?_ | refine W.scalS (SlV.up (by assumption)) ?_ | refine W.scalS (Own.slT (by assumption)) ?_ | refine W.ixIc (SlV.up (by assumption)) (by assumption) ?_ | refine W.ixIc (Own.slT (by assumption)) (by assumption) ?_ | refine W.ixBc (Own.slT (by assumption)) (by assumption) ?_ | refine W.mgetT (by assumption) ?_))
    rfl
  | true =>
  repeat' (with_reducible (first | refine W.next ?_ | refine W.stop ?_ | refine W.nextP ?_ | refine W.stopP ?_ | refine W.ret ?_ | refine W.bind ?_ | refine W.asI ?_ | refine W.asB ?_ | refine W.asV ?_ | refine W.asS ?_ | refine W.chk rfl ?_ | refine W.aggK (by with_unfolding_all rfl) ?_ | refine W.fldp ?_ | refine W.fldfld ?_ | refine W.lenN ?_ | refine W.len (by assumption) ?_ | refine W.len (SlV.mono (by assumption) (by assumption)) ?_ | refine W.ldL (by assumption) (by with_unfolding_all rfl) ?_ | refine W.ldp (by assumption) (by with_unfolding_all rfl) ?_ | refine W.ldGL (by assumption) (Nat.le_of_ble_eq_true (by with_unfolding_all rfl)) ?_ | refine W.fldld (by assumption) (by with_unfolding_all rfl) ?_ | refine W.ld0 (by assumption) (by with_unfolding_all rfl) ?_ | refine W.ldGG (by assumption) (by with_unfolding_all rfl) ?_ | refine W.ixIc (by assumption) (by assumption) ?_ | refine W.ixIc (SlV.mono (by assumption) (by assumption)) (by assumption) ?_ | refine W.ixBc (by assumption) (by assumption) ?_ | refine W.nnil ?_ | refine W.inil ?_ | refine W.scalS (by assumption) ?_ | refine W.scalS (SlV.mono (by assumption) (by assumption)) ?_ | refine W.nck ?_ | refine W.scI ?_ | refine W.scB ?_ | refine W.scP ?_ | refine W.scM ?_ | refine W.scN ?_ | refine W.scNp ?_ | refine W.scNi ?_ | refine W.scIf ?_ | refine W.scSl ?_ | refine W.putC (by with_unfolding_all rfl) ?_ | refine W.ldL (Loc.up (by assumption)) (by with_unfolding_all rfl) ?_ | refine W.ldGL (Loc.up (by assumption)) (Nat.le_of_ble_eq_true (by with_unfolding_all rfl)) ?_ | refine W.len (SlV.up (by assumption)) ?_ | refine W.len (Own.slT (by assumption)) ?_ | refine W.scalS (SlV.up (by assumption)) ?_ | refine W.scalS (Own.slT (by assumption)) ?_ | refine W.ixIc (SlV.up (by assumption)) (by assumption) ?_ | refine W.ixIc (Own.slT (by assumption)) (by assumption) ?_ | refine W.ixBc (Own.slT (by assumption)) (by assumption) ?_ | refine W.mgetT (by assumption) ?_))
  refine W.condF rfl ?_
  repeat' (with_reducible (first | refine W.next ?_ | refine W.stop ?_ | refine W.nextP ?_ | refine W.stopP ?_ | refine W.ret ?_ | refine W.bind ?_ | refine W.asI ?_ | refine W.asB ?_ | refine W.asV ?_ | refine W.asS ?_ | refine W.chk rfl ?_ | refine W.aggK (by with_unfolding_all rfl) ?_ | refine W.fldp ?_ | refine W.fldfld ?_ | refine W.lenN ?_ | refine W.len (by assumption) ?_ | refine W.len (SlV.mono (by assumption) (by assumption)) ?_ | refine W.ldL (by assumption) (by with_unfolding_all rfl) ?_ | refine W.ldp (by assumption) (by with_unfolding_all rfl) ?_ | refine W.ldGL (by assumption) (Nat.le_of_ble_eq_true (by with_unfolding_all rfl)) ?_ | refine W.fldld (by assumption) (by with_unfolding_all rfl) ?_ | refine W.ld0 (by assumption) (by with_unfolding_all rfl) ?_ | refine W.ldGG (by assumption) (by with_unfolding_all rfl) ?_ | refine W.ixIc (by assumption) (by assumption) ?_ | refine W.ixIc (SlV.mono (by assumption) (by assumption)) (by assumption) ?_ | refine W.ixBc (by assumption) (by assumption) ?_ | refine W.nnil ?_ | refine W.inil ?_ | refine W.scalS (by assumption) ?_ | refine W.scalS (SlV.mono (by assumption) (by assumption)) ?_ | refine W.nck ?_ | refine W.scI ?_ | refine W.scB ?_ | refine W.scP ?_ | refine W.scM ?_ | refine W.scN ?_ | refine W.scNp ?_ | refine W.scNi ?_ | refine W.scIf ?_ | refine W.scSl ?_ | refine W.putC (by with_unfolding_all rfl) ?_ | refine W.ldL (Loc.up (by assumption)) (by with_unfolding_all rfl) ?_ | refine W.ldGL (Loc.up (by assumption)) (Nat.le_of_ble_eq_true (by with_unfolding_all rfl)) ?_ | refine W.len (SlV.up (by assumption)) ?_ | refine W.len (Own.slT (by assumption)) ?_ | refine W.scalS (SlV.up (by assumption)) ?_ | refine W.scalS (Own.slT (by assumption)) ?_ | refine W.ixIc (SlV.up (by assumption)) (by assumption) ?_ | refine W.ixIc (Own.slT (by assumption)) (by assumption) ?_ | refine W.ixBc (Own.slT (by assumption)) (by assumption) ?_ | refine W.mgetT (by assumption) ?_))
  refine W.mono (madeO_w false hx hn hsm hl (by omega)) fun r hr => ?_
  obtain ⟨r, τ4⟩ := r
  obtain ⟨T4, li, e, w, xc, yc, er, H4, h, hO, hw⟩ := hr
  dsimp only at er H4 h hO ⊢
  subst er
  replace hput := hput.hop H4
  replace hby := hby.hop H4
  replace hbad := hbad.hop H4
  replace hg := hg.hop H4
  replace hn := H4.tn
  obtain ⟨ck1, ck2, ck3⟩ := clausesOf_ok l 8
  have ck2' : (clausesOf l 8).flatten.length ≤ 100 := by omega
  generalize hCe : clausesOf l 8 = C at *
  refine W.condF (x := some (false, τ4)) rfl ?_
  refine W.bind ?_
  refine W.to (number_eq (by decide) (by decide)) ?_
  obtain ⟨q, hq⟩ : ∃ q : Nat, m % 20 = (q : Int) := ⟨(m % 20).toNat, by omega⟩
  have hq2 : q < 20 := by omega
  rw [hq]
  refine W.ret ?_
  have w1 : IntKind.i64.wrap ((q : Int) + 1) = ((q + 1 : Nat) : Int) := by rw [wrapS] <;> omega
  have w2 : IntKind.i64.wrap (8 + ((q + 1 : Nat) : Int)) = ((8 + (q + 1) : Nat) : Int) := by rw [wrapS] <;> omega
  simp only [w1, w2]
  refine W.bind ?_
  refine W.mono (P := fun r => r.1 = false ∧ ∃ T', Hop iI τ4 T4 r.2 T' ∧ IncG false r.2 T' li e (8 + (q + 1)) C w xc) ?_ fun r hr => ?_
  · refine W.bind ?_
    refine W.mono (fresh_w (m := q + 1) h hn (by omega) (by omega)) fun r hr => ?_
    obtain ⟨r, τ5⟩ := r
    obtain ⟨T5, er, H5, h⟩ := hr
    dsimp only at er H5 h ⊢
    subst er
    refine W.condF rfl ?_
    refine W.bind ?_
    refine W.to (vars_w h) ?_
    refine W.ret ?_
    refine W.condF (by simp) ?_
    refine W.bind ?_
    refine W.mono (fresh0_w (m := 4000) h (by omega) (.inr (by omega))) fun r hr => ?_
    subst hr
    refine W.condF rfl ?_
    refine W.bind ?_
    refine W.mono (fresh0_w (m := -1) h (by omega) (.inl (by omega))) fun r hr => ?_
    subst hr
    refine W.condF rfl ?_
    refine W.bind ?_
    refine W.to (vars_w h) ?_
    refine W.ret ?_
    exact W.ret ⟨by simp, T5, H5, h⟩
  obtain ⟨r, τ5⟩ := r
  obtain ⟨er, T5, H5, h⟩ := hr
  dsimp only at er H5 h ⊢
  subst er
  replace hput := hput.hop H5
  replace hby := hby.hop H5
  replace hbad := hbad.hop H5
  replace hg := hg.hop H5
  replace hO := hO.hop H5
  replace hn := H5.tn
  refine W.condF rfl ?_
  refine W.bind ?_
  refine W.mono (cnf_w hput.up (by omega) (vars := 6) (by omega)) fun r hr => ?_
  obtain ⟨r, τ6⟩ := r
  obtain ⟨L6, y6, er, hA⟩ := hr
  dsimp only at L6 er hA ⊢
  subst er
  have hcs := hA.atF fun k hk => hn.z k hk
  replace hby := hby.hle L6
  replace hbad := hbad.hle L6
  replace hg := hg.hle L6
  replace hO := hO.hle L6
  replace h := h.hle L6
  replace hn := hn.mono L6
  obtain ⟨dk1, dk2, dk3⟩ := clausesOf_ok put 6
  have dk2' : (clausesOf put 6).flatten.length ≤ 60 := by omega
  generalize hDe : clausesOf put 6 = cs at *
  refine W.newA hn rfl rfl fun l25 τ7 _ L7 k25 _ => ?_
  replace hby := hby.hle L7
  replace hbad := hbad.hle L7
  replace hg := hg.hle L7
  replace hO := hO.hle L7
  replace h := h.hle L7
  replace hcs := hcs.hle L7
  replace hn := hn.mono L7
  repeat' (with_reducible (first | refine W.next ?_ | refine W.stop ?_ | refine W.nextP ?_ | refine W.stopP ?_ | refine W.ret ?_ | refine W.bind ?_ | refine W.asI ?_ | refine W.asB ?_ | refine W.asV ?_ | refine W.asS ?_ | refine W.chk rfl ?_ | refine W.aggK (by with_unfolding_all rfl) ?_ | refine W.fldp ?_ | refine W.fldfld ?_ | refine W.lenN ?_ | refine W.len (by assumption) ?_ | refine W.len (SlV.mono (by assumption) (by assumption)) ?_ | refine W.ldL (by assumption) (by with_unfolding_all rfl) ?_ | refine W.ldp (by assumption) (by with_unfolding_all rfl) ?_ | refine W.ldGL (by assumption) (Nat.le_of_ble_eq_true (by with_unfolding_all rfl)) ?_ | refine W.fldld (by assumption) (by with_unfolding_all rfl) ?_ | refine W.ld0 (by assumption) (by with_unfolding_all rfl) ?_ | refine W.ldGG (by assumption) (by with_unfolding_all rfl) ?_ | refine W.ixIc (by assumption) (by assumption) ?_ | refine W.ixIc (SlV.mono (by assumption) (by assumption)) (by assumption) ?_ | refine W.ixBc (by assumption) (by assumption) ?_ | refine W.nnil ?_ | refine W.inil ?_ | refine W.scalS (by assumption) ?_ | refine W.scalS (SlV.mono (by assumption) (by assumption)) ?_ | refine W.nck ?_ | refine W.scI ?_ | refine W.scB ?_ | refine W.scP ?_ | refine W.scM ?_ | refine W.scN ?_ | refine W.scNp ?_ | refine W.scNi ?_ | refine W.scIf ?_ | refine W.scSl ?_ | refine W.putC (by with_unfolding_all rfl) ?_ | refine W.ldL (Loc.up (by assumption)) (by with_unfolding_all rfl) ?_ | refine W.ldGL (Loc.up (by assumption)) (Nat.le_of_ble_eq_true (by with_unfolding_all rfl)) ?_ | refine W.len (SlV.up (by assumption)) ?_ | refine W.len (Own.slT (by assumption)) ?_ | refine W.scalS (SlV.up (by assumption)) ?_ | refine W.scalS (Own.slT (by assumption)) ?_ | refine W.ixIc (SlV.up (by assumption)) (by assumption) ?_ | refine W.ixIc (Own.slT (by assumption)) (by assumption) ?_ | refine W.ixBc (Own.slT (by assumption)) (by assumption) ?_ | refine W.mgetT (by assumption) ?_))
  have hnear : ∀ v ∈ ys, inR v := fun v hv => ⟨hr1 v hv, b5 v hv⟩
  have hd6 : ∀ c ∈ cs, c.length ≤ 1000 ∧ ∀ l ∈ c, l ≠ 0 ∧ -6 ≤ l ∧ l ≤ 6 := fun c hc => ⟨by have := (dk1 c hc).2.1; omega, (dk1 c hc).2.2⟩
  refine W.mono (incPut_w (hg.sub (by decide)) h hn (by omega) (by omega) hcs hby hd6 hnear (by omega) (by omega)) fun r hr => ?_
  obtain ⟨v8, τ8⟩ := r
  dsimp only at hr ⊢
  obtain ⟨gd, C2, w8, T8, xc8, hgd, H8, h8, hC2, hw8, hF⟩ : ∃ gd C2 w8 T8 xc8, goodP ys (8 + (q + 1)) cs = gd ∧ Hop iI τ7 T5 τ8 T8 ∧ IncG false τ8 T8 li e (8 + (q + 1)) C2 w8 xc8 ∧ C2 = C ++ (if gd = true then cs.map fun c => c.map (valL ys) else []) ∧ w8 ≤ w + cs.length ∧ IsF (τ8.at T8 0) v8 (if gd = true then none else some (.range, none)) := by
    rcases hr with ⟨hgd, er, T', xc', H, h⟩ | ⟨hgd, T', hv, H, h⟩
    · exact ⟨true, _, _, T', xc', hgd, H, h, rfl, Nat.le_refl _, er⟩
    · exact ⟨false, _, _, T', xc, hgd, H, h, by simp, by omega, hv⟩
  clear hr h
  replace hby := hby.hop H8
  replace hbad := hbad.hop H8
  replace hg := hg.hop H8
  replace hO := hO.hop H8
  replace hcs := hcs.hop H8
  replace k25 := k25.hop H8
  replace hn := H8.tn
  have wn : IntKind.i64.wrap (8 + ((q + 1 : Nat) : Int)) = ((8 + (q + 1) : Nat) : Int) := w2
  refine W.bind ?_
  refine W.mono (P := fun r => r.1.2 = gd ∧ ∃ T', Hop kI τ8 T8 r.2 T' ∧ OL r.2 T' 41 (wantL ys cs) r.1.1) ?_ fun r hr => ?_
  · refine W.loop cs.length (fun i (u : AVal × Bool × Int) τ => u.2.2 = (i : Int) ∧ u.2.1 = goodP ys (8 + (q + 1)) (cs.take i) ∧ ∃ T', Hop kI τ8 T8 τ T' ∧ SlV vIs (τ.at T' 0) cs y6 ∧ SlV .int (τ.at T' 0) ys xb ∧ Loc (τ.at T' 0) l25 [.int .i64 6, y6] ∧ OL τ T' 41 (wantL ys (cs.take i)) u.1) ⟨rfl, rfl, T8, Hop.refl hn, hcs, hby, k25, OL.nil⟩ fun i u τ9 hi hI => ?_
    obtain ⟨u1, u2, u3⟩ := u
    obtain ⟨rfl, rfl, T9, HH, hcs, hby, k25, hW⟩ := hI
    dsimp only at hW
    have wr : IntKind.i64.wrap ((i : Int) + 1) = ((i + 1 : Nat) : Int) := by rw [wrapS] <;> omega
    have k25u := k25.up
    have hcu := hcs.up
    unfold S.skolemlaw19_IncrSays.b0
    repeat' (with_reducible (first | refine W.next ?_ | refine W.stop ?_ | refine W.nextP ?_ | refine W.stopP ?_ | refine W.ret ?_ | refine W.bind ?_ | refine W.asI ?_ | refine W.asB ?_ | refine W.asV ?_ | refine W.asS ?_ | refine W.chk rfl ?_ | refine W.aggK (by with_unfolding_all rfl) ?_ | refine W.fldp ?_ | refine W.fldfld ?_ | refine W.lenN ?_ | refine W.len (by assumption) ?_ | refine W.len (SlV.mono (by assumption) (by assumption)) ?_ | refine W.ldL (by assumption) (by with_unfolding_all rfl) ?_ | refine W.ldp (by assumption) (by with_unfolding_all rfl) ?_ | refine W.ldGL (by assumption) (Nat.le_of_ble_eq_true (by with_unfolding_all rfl)) ?_ | refine W.fldld (by assumption) (by with_unfolding_all rfl) ?_ | refine W.ld0 (by assumption) (by with_unfolding_all rfl) ?_ | refine W.ldGG (by assumption) (by with_unfolding_all rfl) ?_ | refine W.ixIc (by assumption) (by assumption) ?_ | refine W.ixIc (SlV.mono (by assumption) (by assumption)) (by assumption) ?_ | refine W.ixBc (by assumption) (by assumption) ?_ | refine W.nnil ?_ | refine W.inil ?_ | refine W.scalS (by assumption) ?_ | refine W.scalS (SlV.mono (by assumption) (by assumption)) ?_ | refine W.nck ?_ | refine W.scI ?_ | refine W.scB ?_ | refine W.scP ?_ | refine W.scM ?_ | refine W.scN ?_ | refine W.scNp ?_ | refine W.scNi ?_ | refine W.scIf ?_ | refine W.scSl ?_ | refine W.putC (by with_unfolding_all rfl) ?_ | refine W.ldL (Loc.up (by assumption)) (by with_unfolding_all rfl) ?_ | refine W.ldGL (Loc.up (by assumption)) (Nat.le_of_ble_eq_true (by with_unfolding_all rfl)) ?_ | refine W.len (SlV.up (by assumption)) ?_ | refine W.len (Own.slT (by assumption)) ?_ | refine W.scalS (SlV.up (by assumption)) ?_ | refine W.scalS (Own.slT (by assumption)) ?_ | refine W.ixIc (SlV.up (by assumption)) (by assumption) ?_ | refine W.ixIc (Own.slT (by assumption)) (by assumption) ?_ | refine W.ixBc (Own.slT (by assumption)) (by assumption) ?_ | refine W.mgetT (by assumption) ?_))
    (with_reducible refine W.cnd (fun hlt => ?_) (fun hlt => ?_) <;> (try simp only [q1, q2, q3, q4, q5, q6, q7, q8, q9, q10, q11, q12, q13, q14, q15, q16, q17, q18, q19, q20, q21, q22, q23, q24, q25, q26, q27, q28, q29, q30, Kd.ty] at hlt) <;> (try (exfalso; omega)))
    · obtain ⟨a, ha⟩ := get_ex (xs := cs) (i := i) (by omega)
      have ham := hd6 a (List.mem_of_getElem? ha)
      have htk : cs.take (i + 1) = cs.take i ++ [a] := by rw [List.take_add_one, ha]; rfl
      repeat' (with_reducible (first | refine W.next ?_ | refine W.stop ?_ | refine W.nextP ?_ | refine W.stopP ?_ | refine W.ret ?_ | refine W.bind ?_ | refine W.asI ?_ | refine W.asB ?_ | refine W.asV ?_ | refine W.asS ?_ | refine W.chk rfl ?_ | refine W.aggK (by with_unfolding_all rfl) ?_ | refine W.fldp ?_ | refine W.fldfld ?_ | refine W.lenN ?_ | refine W.len (by assumption) ?_ | refine W.len (SlV.mono (by assumption) (by assumption)) ?_ | refine W.ldL (by assumption) (by with_unfolding_all rfl) ?_ | refine W.ldp (by assumption) (by with_unfolding_all rfl) ?_ | refine W.ldGL (by assumption) (Nat.le_of_ble_eq_true (by with_unfolding_all rfl)) ?_ | refine W.fldld (by assumption) (by with_unfolding_all rfl) ?_ | refine W.ld0 (by assumption) (by with_unfolding_all rfl) ?_ | refine W.ldGG (by assumption) (by with_unfolding_all rfl) ?_ | refine W.ixIc (by assumption) (by assumption) ?_ | refine W.ixIc (SlV.mono (by assumption) (by assumption)) (by assumption) ?_ | refine W.ixBc (by assumption) (by assumption) ?_ | refine W.nnil ?_ | refine W.inil ?_ | refine W.scalS (by assumption) ?_ | refine W.scalS (SlV.mono (by assumption) (by assumption)) ?_ | refine W.nck ?_ | refine W.scI ?_ | refine W.scB ?_ | refine W.scP ?_ | refine W.scM ?_ | refine W.scN ?_ | refine W.scNp ?_ | refine W.scNi ?_ | refine W.scIf ?_ | refine W.scSl ?_ | refine W.putC (by with_unfolding_all rfl) ?_ | refine W.ldL (Loc.up (by assumption)) (by with_unfolding_all rfl) ?_ | refine W.ldGL (Loc.up (by assumption)) (Nat.le_of_ble_eq_true (by with_unfolding_all rfl)) ?_ | refine W.len (SlV.up (by assumption)) ?_ | refine W.len (Own.slT (by assumption)) ?_ | refine W.scalS (SlV.up (by assumption)) ?_ | refine W.scalS (Own.slT (by assumption)) ?_ | refine W.ixIc (SlV.up (by assumption)) (by assumption) ?_ | refine W.ixIc (Own.slT (by assumption)) (by assumption) ?_ | refine W.ixBc (Own.slT (by assumption)) (by assumption) ?_ | refine W.mgetT (by assumption) ?_))
      refine W.ixkLS hcs at_le ha fun v hv => ?_
      refine W.bind ?_
      refine W.mono (refRename_w hv hby HH.tn ham.2 (by omega) hnear) fun r hr => ?_
      obtain ⟨⟨r1, r2⟩, τ10⟩ := r
      obtain ⟨T10, H10, hcase⟩ := hr
      dsimp only at H10 hcase ⊢
      have hn := HH.tn
      replace HH := HH.trans H10.k28
      replace hcs := hcs.hop H10
      replace hby := hby.hop H10
      replace k25 := k25.hop H10
      replace hW := hW.hop H10
      replace hn := H10.tn
      rw [wn]
      have hgt : goodP ys (8 + (q + 1)) (cs.take (i + 1)) = (goodP ys (8 + (q + 1)) (cs.take i) && (a.all (okL ys) && (a.map (valL ys)).all fun l => isL l ((8 + (q + 1) : Nat) : Int))) := by
        rw [htk]; unfold goodP; rw [List.all_append]; simp
      obtain ⟨zs, hzs, hz⟩ : ∃ zs, zs = (if a.all (okL ys) = true then a.map (valL ys) else []) ∧ SlV .int (τ10.at T10 0) zs r1 := by
        rcases hcase with ⟨hok, rfl, hz⟩ | ⟨hok, er⟩
        · exact ⟨_, rfl, by rw [if_pos hok]; exact hz⟩
        · cases er
          exact ⟨_, rfl, by rw [if_neg (by simp [hok])]; exact .inl ⟨rfl, rfl⟩⟩
      have h2 : r2 = a.all (okL ys) := by
        rcases hcase with ⟨hok, rfl, hz⟩ | ⟨hok, er⟩
        · rw [hok]
        · cases er; rw [hok]
      clear hcase
      refine W.bind ?_
      refine W.mono (P := fun r => r = goodP ys (8 + (q + 1)) (cs.take (i + 1))) ?_ fun r hr => ?_
      · rw [hgt]
        cases hg1 : goodP ys (8 + (q + 1)) (cs.take i) with
        | false => exact W.condF rfl (W.ret rfl)
        | true =>
          refine W.condT rfl ?_
          cases hok : a.all (okL ys) with
          | false =>
            rw [hok] at h2
            subst h2
            exact W.condF rfl (W.ret rfl)
          | true =>
            rw [hok] at h2
            subst h2
            rw [if_pos hok] at hzs
            refine W.condT rfl ?_
            refine W.bind ?_
            refine W.mono (right_eq (n := 8 + (q + 1)) hz.up (by rw [hzs, List.length_map]; omega) (by omega)) fun r hr => ?_
            subst hr
            rw [hzs]
            exact W.ret rfl
      subst hr
      refine W.scalS hz.up ?_
      refine W.ol_push hW hn hz (by decide) (by unfold wantL; rw [List.length_map, List.length_take]; omega) fun x' τ11 T11 hW H11 => ?_
      repeat' (with_reducible (first | refine W.next ?_ | refine W.stop ?_ | refine W.nextP ?_ | refine W.stopP ?_ | refine W.ret ?_ | refine W.bind ?_ | refine W.asI ?_ | refine W.asB ?_ | refine W.asV ?_ | refine W.asS ?_ | refine W.chk rfl ?_ | refine W.aggK (by with_unfolding_all rfl) ?_ | refine W.fldp ?_ | refine W.fldfld ?_ | refine W.lenN ?_ | refine W.len (by assumption) ?_ | refine W.len (SlV.mono (by assumption) (by assumption)) ?_ | refine W.ldL (by assumption) (by with_unfolding_all rfl) ?_ | refine W.ldp (by assumption) (by with_unfolding_all rfl) ?_ | refine W.ldGL (by assumption) (Nat.le_of_ble_eq_true (by with_unfolding_all rfl)) ?_ | refine W.fldld (by assumption) (by with_unfolding_all rfl) ?_ | refine W.ld0 (by assumption) (by with_unfolding_all rfl) ?_ | refine W.ldGG (by assumption) (by with_unfolding_all rfl) ?_ | refine W.ixIc (by assumption) (by assumption) ?_ | refine W.ixIc (SlV.mono (by assumption) (by assumption)) (by assumption) ?_ | refine W.ixBc (by assumption) (by assumption) ?_ | refine W.nnil ?_ | refine W.inil ?_ | refine W.scalS (by assumption) ?_ | refine W.scalS (SlV.mono (by assumption) (by assumption)) ?_ | refine W.nck ?_ | refine W.scI ?_ | refine W.scB ?_ | refine W.scP ?_ | refine W.scM ?_ | refine W.scN ?_ | refine W.scNp ?_ | refine W.scNi ?_ | refine W.scIf ?_ | refine W.scSl ?_ | refine W.putC (by with_unfolding_all rfl) ?_ | refine W.ldL (Loc.up (by assumption)) (by with_unfolding_all rfl) ?_ | refine W.ldGL (Loc.up (by assumption)) (Nat.le_of_ble_eq_true (by with_unfolding_all rfl)) ?_ | refine W.len (SlV.up (by assumption)) ?_ | refine W.len (Own.slT (by assumption)) ?_ | refine W.scalS (SlV.up (by assumption)) ?_ | refine W.scalS (Own.slT (by assumption)) ?_ | refine W.ixIc (SlV.up (by assumption)) (by assumption) ?_ | refine W.ixIc (Own.slT (by assumption)) (by assumption) ?_ | refine W.ixBc (Own.slT (by assumption)) (by assumption) ?_ | refine W.mgetT (by assumption) ?_))
      refine ⟨by omega, wr, rfl, T11, HH.trans H11.k41, hcs.hop H11, hby.hop H11, k25.hop H11, ?_⟩
      have : wantL ys (cs.take (i + 1)) = wantL ys (cs.take i) ++ [zs] := by rw [htk, hzs]; unfold wantL; rw [List.map_append]; rfl
      rw [this]
      exact hW
    · repeat' (with_reducible (first | refine W.next ?_ | refine W.stop ?_ | refine W.nextP ?_ | refine W.stopP ?_ | refine W.ret ?_ | refine W.bind ?_ | refine W.asI ?_ | refine W.asB ?_ | refine W.asV ?_ | refine W.asS ?_ | refine W.chk rfl ?_ | refine W.aggK (by with_unfolding_all rfl) ?_ | refine W.fldp ?_ | refine W.fldfld ?_ | refine W.lenN ?_ | refine W.len (by assumption) ?_ | refine W.len (SlV.mono (by assumption) (by assumption)) ?_ | refine W.ldL (by assumption) (by with_unfolding_all rfl) ?_ | refine W.ldp (by assumption) (by with_unfolding_all rfl) ?_ | refine W.ldGL (by assumption) (Nat.le_of_ble_eq_true (by with_unfolding_all rfl)) ?_ | refine W.fldld (by assumption) (by with_unfolding_all rfl) ?_ | refine W.ld0 (by assumption) (by with_unfolding_all rfl) ?_ | refine W.ldGG (by assumption) (by with_unfolding_all rfl) ?_ | refine W.ixIc (by assumption) (by assumption) ?_ | refine W.ixIc (SlV.mono (by assumption) (by assumption)) (by assumption) ?_ | refine W.ixBc (by assumption) (by assumption) ?_ | refine W.nnil ?_ | refine W.inil ?_ | refine W.scalS (by assumption) ?_ | refine W.scalS (SlV.mono (by assumption) (by assumption)) ?_ | refine W.nck ?_ | refine W.scI ?_ | refine W.scB ?_ | refine W.scP ?_ | refine W.scM ?_ | refine W.scN ?_ | refine W.scNp ?_ | refine W.scNi ?_ | refine W.scIf ?_ | refine W.scSl ?_ | refine W.putC (by with_unfolding_all rfl) ?_ | refine W.ldL (Loc.up (by assumption)) (by with_unfolding_all rfl) ?_ | refine W.ldGL (Loc.up (by assumption)) (Nat.le_of_ble_eq_true (by with_unfolding_all rfl)) ?_ | refine W.len (SlV.up (by assumption)) ?_ | refine W.len (Own.slT (by assumption)) ?_ | refine W.scalS (SlV.up (by assumption)) ?_ | refine W.scalS (Own.slT (by assumption)) ?_ | refine W.ixIc (SlV.up (by assumption)) (by assumption) ?_ | refine W.ixIc (Own.slT (by assumption)) (by assumption) ?_ | refine W.ixBc (Own.slT (by assumption)) (by assumption) ?_ | refine W.mgetT (by assumption) ?_))
      have : i = cs.length := by omega
      subst this
      rw [List.take_length] at hW
      exact ⟨by rw [List.take_length]; exact hgd, T9, HH, hW⟩
  obtain ⟨⟨yw, b9⟩, τ9⟩ := r
  obtain ⟨er, T9, H9, hW⟩ := hr
  dsimp only at er H9 hW ⊢
  subst er
  replace h8 := h8.hopG H9 fun j hj => by simp [kI] at hj; omega
  replace hbad := hbad.hop H9
  replace hg := hg.hop H9
  replace hO := hO.hop H9
  replace hF := hF.hop H9
  replace hn := H9.tn
  refine W.bind ?_
  refine W.mono (P := fun r => r.1 = false ∧ Hle τ9 r.2) ?_ fun r hr => ?_
  · refine W.fnil (hF.mono at_le) ?_
    cases b9 with
    | true =>
      refine W.condF rfl ?_
      refine W.condF rfl ?_
      exact W.ret ⟨rfl, Hle.refl _⟩
    | false =>
      refine W.condF rfl ?_
      refine W.condT rfl ?_
      refine W.bind ?_
      refine W.mono (seeIs_w (e := .range) hg.up (f := some (.range, none)) (hF.mono at_le)) fun r hr => ?_
      obtain ⟨r, τ10⟩ := r
      obtain ⟨er, L10⟩ := hr
      dsimp only at er L10 ⊢
      subst er
      exact W.ret ⟨by simp, L10⟩
  obtain ⟨r, τ10⟩ := r
  obtain ⟨er, L10⟩ := hr
  dsimp only at er L10 ⊢
  subst er
  clear hF
  replace hbad := hbad.hle L10
  replace hg := hg.hle L10
  replace hO := hO.hle L10
  replace h8 := h8.hle L10
  replace hW := hW.hle L10
  replace hn := hn.mono L10
  refine W.condF rfl ?_
  obtain ⟨T11, H11, hw⟩ := hW.freeze hn (by decide)
  replace h8 := h8.hop H11
  replace hbad := hbad.hop H11
  replace hg := hg.hop H11
  replace hO := hO.hop H11
  replace hn := H11.tn
  have hClen : C.length ≤ 100 := by omega
  have hcslen : cs.length ≤ 60 := by omega
  have hwl : (wantL ys cs).length = cs.length := by unfold wantL; simp
  refine W.bind ?_
  refine W.mono (P := fun r => ∃ T', Hop (only 40) τ10 T11 r.2 T' ∧ OL r.2 T' 40 C2 r.1) ?_ fun r hr => ?_
  · cases b9 with
    | true =>
      refine W.condT rfl ?_
      refine W.ol_app hO hn hw (by decide) (by omega) fun x3 τ12 T12 hO H12 => ?_
      refine W.ret ⟨T12, H12, ?_⟩
      rw [hC2, if_pos rfl]
      have : wantL ys cs = cs.map fun c => c.map (valL ys) := by
        unfold wantL
        refine List.map_congr_left fun c hc => ?_
        have h1 := List.all_eq_true.1 hgd c hc
        rw [if_pos (by simp only [Bool.and_eq_true] at h1; exact h1.1)]
      rw [← this]
      exact hO
    | false =>
      refine W.condF rfl ?_
      refine W.ret ⟨T11, Hop.refl hn, ?_⟩
      rw [hC2]; simpa using hO
  obtain ⟨y12, τ12⟩ := r
  obtain ⟨T12, H12, hO⟩ := hr
  dsimp only at H12 hO ⊢
  replace h8 := h8.hop H12
  replace hbad := hbad.hop H12
  replace hg := hg.hop H12
  replace hn := H12.tn
  have hC2l : C2.length ≤ 160 := by
    rw [hC2, List.length_append]
    split <;> simp <;> omega
  have hC2f : C2.flatten.length ≤ 160 := by
    have := flat_map_len (f := valL ys) cs
    rw [hC2, List.flatten_append, List.length_append]
    cases b9 with
    | true => rw [if_pos rfl, this]; omega
    | false => rw [if_neg (by simp)]; show C.flatten.length + 0 ≤ 160; omega
  obtain ⟨rb, hrb⟩ : ∃ rb, (bad.all fun l => isL l ((8 + (q + 1) : Nat) : Int)) = rb := ⟨_, rfl⟩
  refine W.bind ?_
  refine W.mono (P := fun r => ∃ T' w' xc', Hop uI τ12 T12 r.2 T' ∧ IncG false r.2 T' li e (8 + (q + 1)) (C2 ++ if rb = true then [bad] else []) w' xc' ∧ IsF (r.2.at T' 0) r.1 (if rb = true then none else some (.range, none))) ?_ fun r hr => ?_
  · cases rb with
    | true =>
      refine W.mono (incAddU_w (u := 0) rfl h8 hn (by omega) (by omega) hbad (fun l hl => List.all_eq_true.1 hrb l hl) (by omega) (by omega)) fun r hr => ?_
      obtain ⟨er, T', xc', H, h⟩ := hr
      exact ⟨T', _, xc', H, h, er⟩
    | false =>
      refine W.mono (incAddBad_w (u := 0) (hg.sub (by decide)) h8 hn (by omega) hbad (by omega) (by omega) hrb) fun r hr => ?_
      obtain ⟨hv, L⟩ := hr
      exact ⟨T12, _, _, Hop.of hn L, by simpa using h8.hle L, hv⟩
  obtain ⟨v13, τ13⟩ := r
  obtain ⟨T13, w13, xc13, H13, h, hF⟩ := hr
  dsimp only at H13 h hF ⊢
  clear h8
  replace hbad := hbad.hop H13
  replace hg := hg.hop H13
  replace hO := hO.hop H13
  replace hn := H13.tn
  refine W.bind ?_
  refine W.mono (right_eq (n := 8 + (q + 1)) hbad.up (by omega) (by omega)) fun r hr => ?_
  obtain rfl : rb = r := (hr.trans hrb).symm
  refine W.bind ?_
  refine W.mono (P := fun r => ∃ y', r.1 = .inl y' ∧ ∃ T', Hop (only 40) τ13 T13 r.2 T' ∧ OL r.2 T' 40 (C2 ++ if rb = true then [bad] else []) y') ?_ fun r hr => ?_
  · cases rb with
    | true =>
      refine W.condT rfl ?_
      refine W.scalS hbad.up ?_
      refine W.ol_push hO hn hbad (by decide) (by omega) fun x' τ14 T14 hO H14 => ?_
      exact W.ret ⟨x', rfl, T14, H14, by simpa using hO⟩
    | false =>
      refine W.condF rfl ?_
      refine W.bind ?_
      refine W.mono (seeIs_w (e := .range) hg.up (f := some (.range, none)) (hF.mono at_le)) fun r hr => ?_
      obtain ⟨r, τ14⟩ := r
      obtain ⟨er, L14⟩ := hr
      dsimp only at er L14 ⊢
      subst er
      refine W.condF (by simp) ?_
      exact W.ret ⟨y12, rfl, T13, Hop.of hn L14, by simpa using hO.hle L14⟩
  obtain ⟨r, τ14⟩ := r
  obtain ⟨y14, er, T14, H14, hO⟩ := hr
  dsimp only at er H14 hO ⊢
  subst er
  replace h := h.hop H14
  replace hn := H14.tn
  dsimp only
  generalize hC3 : (C2 ++ if rb = true then [bad] else []) = C3 at *
  have hC3l : C3.length ≤ 200 := by
    rw [← hC3, List.length_append]
    split <;> simp <;> omega
  have hC3c : ∀ c ∈ C3, c.length ≤ 1000000 := fun c hc => by
    have h1 := flat_mem hc
    have h2 : C3.flatten.length ≤ 200 := by
      rw [← hC3, List.flatten_append, List.length_append]
      cases rb with
      | true =>
        have : (if true = true then [bad] else []).flatten.length = bad.length := by simp
        rw [this]; omega
      | false => rw [if_neg (by simp)]; show C2.flatten.length + 0 ≤ 200; omega
    omega
  refine W.bind ?_
  refine W.mono (incAllS_w h hn (by omega) hC3c) fun r hr => ?_
  obtain ⟨r, τ15⟩ := r
  obtain ⟨T15, ya, er, H15, ha⟩ := hr
  dsimp only at er H15 ha ⊢
  subst er
  replace hO := hO.hop H15
  replace hn := H15.tn
  refine W.newA hn rfl rfl fun l73 τ16 _ L16 k73 _ => ?_
  replace hO := hO.hle L16
  replace ha := ha.hle L16
  replace hn := hn.mono L16
  have k73u := k73.up
  refine W.bind ?_
  refine W.mono (P := fun r => r = true) ?_ fun r hr => W.ret hr
  refine W.condT rfl ?_
  repeat' (with_reducible (first | refine W.next ?_ | refine W.stop ?_ | refine W.nextP ?_ | refine W.stopP ?_ | refine W.ret ?_ | refine W.bind ?_ | refine W.asI ?_ | refine W.asB ?_ | refine W.asV ?_ | refine W.asS ?_ | refine W.chk rfl ?_ | refine W.aggK (by with_unfolding_all rfl) ?_ | refine W.fldp ?_ | refine W.fldfld ?_ | refine W.lenN ?_ | refine W.len (by assumption) ?_ | refine W.len (SlV.mono (by assumption) (by assumption)) ?_ | refine W.ldL (by assumption) (by with_unfolding_all rfl) ?_ | refine W.ldp (by assumption) (by with_unfolding_all rfl) ?_ | refine W.ldGL (by assumption) (Nat.le_of_ble_eq_true (by with_unfolding_all rfl)) ?_ | refine W.fldld (by assumption) (by with_unfolding_all rfl) ?_ | refine W.ld0 (by assumption) (by with_unfolding_all rfl) ?_ | refine W.ldGG (by assumption) (by with_unfolding_all rfl) ?_ | refine W.ixIc (by assumption) (by assumption) ?_ | refine W.ixIc (SlV.mono (by assumption) (by assumption)) (by assumption) ?_ | refine W.ixBc (by assumption) (by assumption) ?_ | refine W.nnil ?_ | refine W.inil ?_ | refine W.scalS (by assumption) ?_ | refine W.scalS (SlV.mono (by assumption) (by assumption)) ?_ | refine W.nck ?_ | refine W.scI ?_ | refine W.scB ?_ | refine W.scP ?_ | refine W.scM ?_ | refine W.scN ?_ | refine W.scNp ?_ | refine W.scNi ?_ | refine W.scIf ?_ | refine W.scSl ?_ | refine W.putC (by with_unfolding_all rfl) ?_ | refine W.ldL (Loc.up (by assumption)) (by with_unfolding_all rfl) ?_ | refine W.ldGL (Loc.up (by assumption)) (Nat.le_of_ble_eq_true (by with_unfolding_all rfl)) ?_ | refine W.len (SlV.up (by assumption)) ?_ | refine W.len (Own.slT (by assumption)) ?_ | refine W.scalS (SlV.up (by assumption)) ?_ | refine W.scalS (Own.slT (by assumption)) ?_ | refine W.ixIc (SlV.up (by assumption)) (by assumption) ?_ | refine W.ixIc (Own.slT (by assumption)) (by assumption) ?_ | refine W.ixBc (Own.slT (by assumption)) (by assumption) ?_ | refine W.mgetT (by assumption) ?_))
  refine W.condT (by simp) ?_
  repeat' (with_reducible (first | refine W.next ?_ | refine W.stop ?_ | refine W.nextP ?_ | refine W.stopP ?_ | refine W.ret ?_ | refine W.bind ?_ | refine W.asI ?_ | refine W.asB ?_ | refine W.asV ?_ | refine W.asS ?_ | refine W.chk rfl ?_ | refine W.aggK (by with_unfolding_all rfl) ?_ | refine W.fldp ?_ | refine W.fldfld ?_ | refine W.lenN ?_ | refine W.len (by assumption) ?_ | refine W.len (SlV.mono (by assumption) (by assumption)) ?_ | refine W.ldL (by assumption) (by with_unfolding_all rfl) ?_ | refine W.ldp (by assumption) (by with_unfolding_all rfl) ?_ | refine W.ldGL (by assumption) (Nat.le_of_ble_eq_true (by with_unfolding_all rfl)) ?_ | refine W.fldld (by assumption) (by with_unfolding_all rfl) ?_ | refine W.ld0 (by assumption) (by with_unfolding_all rfl) ?_ | refine W.ldGG (by assumption) (by with_unfolding_all rfl) ?_ | refine W.ixIc (by assumption) (by assumption) ?_ | refine W.ixIc (SlV.mono (by assumption) (by assumption)) (by assumption) ?_ | refine W.ixBc (by assumption) (by assumption) ?_ | refine W.nnil ?_ | refine W.inil ?_ | refine W.scalS (by assumption) ?_ | refine W.scalS (SlV.mono (by assumption) (by assumption)) ?_ | refine W.nck ?_ | refine W.scI ?_ | refine W.scB ?_ | refine W.scP ?_ | refine W.scM ?_ | refine W.scN ?_ | refine W.scNp ?_ | refine W.scNi ?_ | refine W.scIf ?_ | refine W.scSl ?_ | refine W.putC (by with_unfolding_all rfl) ?_ | refine W.ldL (Loc.up (by assumption)) (by with_unfolding_all rfl) ?_ | refine W.ldGL (Loc.up (by assumption)) (Nat.le_of_ble_eq_true (by with_unfolding_all rfl)) ?_ | refine W.len (SlV.up (by assumption)) ?_ | refine W.len (Own.slT (by assumption)) ?_ | refine W.scalS (SlV.up (by assumption)) ?_ | refine W.scalS (Own.slT (by assumption)) ?_ | refine W.ixIc (SlV.up (by assumption)) (by assumption) ?_ | refine W.ixIc (Own.slT (by assumption)) (by assumption) ?_ | refine W.ixBc (Own.slT (by assumption)) (by assumption) ?_ | refine W.mgetT (by assumption) ?_))
  refine W.to (sameClauses_eq ha.up hO.sl (by omega) hC3c) ?_
  repeat' (with_reducible (first | refine W.next ?_ | refine W.stop ?_ | refine W.nextP ?_ | refine W.stopP ?_ | refine W.ret ?_ | refine W.bind ?_ | refine W.asI ?_ | refine W.asB ?_ | refine W.asV ?_ | refine W.asS ?_ | refine W.chk rfl ?_ | refine W.aggK (by with_unfolding_all rfl) ?_ | refine W.fldp ?_ | refine W.fldfld ?_ | refine W.lenN ?_ | refine W.len (by assumption) ?_ | refine W.len (SlV.mono (by assumption) (by assumption)) ?_ | refine W.ldL (by assumption) (by with_unfolding_all rfl) ?_ | refine W.ldp (by assumption) (by with_unfolding_all rfl) ?_ | refine W.ldGL (by assumption) (Nat.le_of_ble_eq_true (by with_unfolding_all rfl)) ?_ | refine W.fldld (by assumption) (by with_unfolding_all rfl) ?_ | refine W.ld0 (by assumption) (by with_unfolding_all rfl) ?_ | refine W.ldGG (by assumption) (by with_unfolding_all rfl) ?_ | refine W.ixIc (by assumption) (by assumption) ?_ | refine W.ixIc (SlV.mono (by assumption) (by assumption)) (by assumption) ?_ | refine W.ixBc (by assumption) (by assumption) ?_ | refine W.nnil ?_ | refine W.inil ?_ | refine W.scalS (by assumption) ?_ | refine W.scalS (SlV.mono (by assumption) (by assumption)) ?_ | refine W.nck ?_ | refine W.scI ?_ | refine W.scB ?_ | refine W.scP ?_ | refine W.scM ?_ | refine W.scN ?_ | refine W.scNp ?_ | refine W.scNi ?_ | refine W.scIf ?_ | refine W.scSl ?_ | refine W.putC (by with_unfolding_all rfl) ?_ | refine W.ldL (Loc.up (by assumption)) (by with_unfolding_all rfl) ?_ | refine W.ldGL (Loc.up (by assumption)) (Nat.le_of_ble_eq_true (by with_unfolding_all rfl)) ?_ | refine W.len (SlV.up (by assumption)) ?_ | refine W.len (Own.slT (by assumption)) ?_ | refine W.scalS (SlV.up (by assumption)) ?_ | refine W.scalS (Own.slT (by assumption)) ?_ | refine W.ixIc (SlV.up (by assumption)) (by assumption) ?_ | refine W.ixIc (Own.slT (by assumption)) (by assumption) ?_ | refine W.ixBc (Own.slT (by assumption)) (by assumption) ?_ | refine W.mgetT (by assumption) ?_))
  simp
end
end Go.Proofs.YtekehmgfedmflaaDoor.A
