/- IncrSays: for every input the call returns true, and each argument reads afterwards as0 it read before. Conditions: those that the given statement IncrSaysCardSaid itself bears; none is added. -/
import Derived.Test.YtekehmgfedmflaaDoorCards
import Derived.Test.YtekehmgfedmflaaDoorX13
import Derived.Test.YtekehmgfedmflaaDoorX12
set_option linter.all false

namespace Go.Proofs.YtekehmgfedmflaaDoor.A
open Go Go.ChangeShapes Go.WideShapes Go.ChangeAt Go.RowKit Go.Proofs.YtekehmgfedmflaaDoor
def IncrSays.laid : List (String × Nat × List UInt8) := [("skolem/api.ErrText", 2, [110, 111, 116, 32, 97, 115, 32, 105, 116, 32, 105, 115, 32, 119, 114, 105, 116, 116, 101, 110]), ("skolem/api.ErrLimit", 1, [109, 111, 114, 101, 32, 116, 104, 97, 110, 32, 109, 97, 121, 32, 98, 101]), ("skolem/api.ErrBudget", 3, [116, 104, 101, 32, 98, 117, 100, 103, 101, 116, 32, 105, 115, 32, 117, 115, 101, 100, 32, 117, 112]), ("skolem/api.ErrRange", 0, [97, 32, 110, 117, 109, 98, 101, 114, 32, 111, 117, 116, 32, 111, 102, 32, 105, 116, 115, 32, 114, 97, 110, 103, 101]), ("skolem/api.ErrBlocks", 4, [109, 111, 114, 101, 32, 116, 104, 97, 110, 32, 116, 119, 111, 32, 98, 108, 111, 99, 107, 115]), ("skolem/api.ErrProof", 5, [97, 32, 115, 116, 101, 112, 32, 116, 104, 97, 116, 32, 100, 111, 101, 115, 32, 110, 111, 116, 32, 102, 111, 108, 108, 111, 119]), ("skolem/api.ErrCert", 6, [110, 111, 32, 99, 101, 114, 116, 105, 102, 105, 99, 97, 116, 101, 32, 111, 102, 32, 105, 116])]
def IncrSays.args : Args Tryd.prog ((List Int) × (List Int × List Int × List Int × List Int × Int × Int) × (List Int) × (List Int) × Int × (List Int) × Unit) := (Args.cons Tryd.cIs (Args.consS Tryd.cScript (Args.cons Tryd.cIs (Args.cons Tryd.cIs (Args.cons Tryd.cI (Args.cons Tryd.cIs Args.nil rfl (.inl ⟨_, Tryd.underlying26⟩)) rfl (.inr (.inl ⟨_, Tryd.underlying3⟩))) rfl (.inl ⟨_, Tryd.underlying26⟩)) rfl (.inl ⟨_, Tryd.underlying26⟩)) ⟨_, Tryd.underlying28⟩) rfl (.inl ⟨_, Tryd.underlying26⟩))

set_option maxRecDepth 100000 in
theorem IncrSays_lifted (os : Os) (started : os.Started) (H : Type) (enc : TypeId × Value → H) :
    ReturnsInHanded {} Tryd.checked os 4 .any (fun w args => (Rows.incrSaysSpec.pre enc Tryd.prog Tryd.f4 [] false w args ∧ laidMetH Tryd.prog Rows.incrSaysRow.laid w) ∧ sizedMet enc Tryd.prog Tryd.f4 (OpenSpec.ofChange Rows.incrSaysSpec) false w args)
      (Rows.incrSaysSpec.post enc Tryd.prog Tryd.f4 false true false false) := by
  refine returnsInHanded_laid (C := Tryd.checked) (X := fun w _ => laidMetH Tryd.prog Rows.incrSaysRow.laid w) 7 (fun _ _ _ hh h => h.of_heap hh) Tryd.own started (by kernel_rfl) Tryd.func4 (Nat.le_of_ble_eq_true (by kernel_rfl)) Tryd.rows
    (ChangeSpec.witness_shaped (enc := enc) (C := Tryd.checked) (os := os) (X := fun w _ => laidMetH Tryd.prog Rows.incrSaysRow.laid w) false (World.laidAll Tryd.prog os Rows.incrSaysRow.laid) #[.slice none 0 0, .agg #[.slice none 0 0, .slice none 0 0, .slice none 0 0, .slice none 0 0, .int .i64 0, .int .i64 0], .slice none 0 0, .slice none 0 0, .int .i64 0, .slice none 0 0] 8 (World.laidAll_os _ _ _)
      (World.shaped_of_ZipB (by kernel_rfl) (by kernel_rfl)) (by kernel_rfl) (by kernel_rfl) (by kernel_rfl)
      (by rw [MakeChecks.laidMetH_plain _ _ _ (by kernel_rfl)]; exact laidMet_laidAll _ (by kernel_rfl) (by kernel_rfl))) ?_
  intro W base args ds gs before hval0 hW hz hL hNG
  have hval : ∀ (j : Nat) t v, Tryd.f4.params[j]? = some t → args[j]? = some v → Value.okWide Tryd.prog W .any base t v := hval0
  rw [MakeChecks.laidMetH_plain _ _ _ (by kernel_rfl)] at hL
  obtain ⟨ps, hlv, _, hlr⟩ := hL
  have hsn := snts_of_laid Tryd.snt IncrSays.laid ps hlv (fun x hx => by
    simp only [IncrSays.laid, List.mem_cons, List.not_mem_nil, or_false] at hx
    rcases hx with rfl | rfl | rfl | rfl | rfl | rfl | rfl <;> exact ⟨by kernel_rfl, by kernel_rfl⟩) hlr
  have hgl : ∀ x ∈ IncrSays.laid.map (·.2), ∃ a, SntAt W 140 x.1 x.2 a := fun x hx => by
    obtain ⟨y, hy, rfl⟩ := List.mem_map.1 hx
    exact hsn y hy
  have hW' := hW
  obtain ⟨p, q, hA0, hV, rfl, hfz, hnd⟩ := hW
  have hA : DataW.TrodAll enc Tryd.prog W 0 (fun _ => true) true Tryd.f4.params.toList args.toList ds p := hA0
  obtain ⟨rfl, rfl⟩ := trodVars_none hV
  rw [Tryd.params4] at hA hval hz
  have hfit : ∀ k ∈ DataW.weightsEach Tryd.prog [26, 28, 26, 26, 3, 26] ds, k ≤ reachBytes := by
    have h1 : (DataW.weightsEach Tryd.prog ([26, 28, 26, 26, 3, 26] ++ []) (ds ++ [])).all (· ≤ reachBytes) = true := hz
    simpa using h1
  clear hA0 hval0
  simp only [List.append_nil] at hW'
  have hA' := hA
  obtain ⟨v0, v1, v2, v3, v4, v5, d0, d1, d2, d3, d4, d5, rfl, rfl⟩ := trodAll_six hA
  have hts : IncrSays.args.ts = [26, 28, 26, 26, 3, 26] := rfl
  refine (law_callsG Go.Proofs.YtekehmgfedmflaaDoor.A.W.skolemlaw19_IncrSays_ok IncrSays.args 140 (IncrSays.laid.map (·.2)) (fun a cs σ hn hg h => ?_) hA' (fun j t v h1 h2 => hval j t v (by rw [hts] at h1; simpa using h1) h2) hfit hNG hgl).mono fun e W' ⟨he, hw⟩ => ?_
  · obtain ⟨v0, vs0, rfl, h0, t0⟩ := h
    obtain ⟨v1, vs1, rfl, h1, t1⟩ := t0
    obtain ⟨v2, vs2, rfl, h2, t2⟩ := t1
    obtain ⟨v3, vs3, rfl, h3, t3⟩ := t2
    obtain ⟨v4, vs4, rfl, h4, t4⟩ := t3
    obtain ⟨v5, vs5, rfl, h5, t5⟩ := t4
    have t5 : vs5 = [] := t5
    subst t5
    have hg' : GlS [.text, .limit, .budget, .range, .blocks, .proof, .cert] σ := gls_of hn _ _ (fun e he => by
      simp only [List.mem_cons, List.not_mem_nil, or_false] at he
      rcases he with rfl | rfl | rfl | rfl | rfl | rfl | rfl
      · exact ⟨0, by kernel_rfl, by kernel_rfl, by decide⟩
      · exact ⟨1, by kernel_rfl, by kernel_rfl, by decide⟩
      · exact ⟨2, by kernel_rfl, by kernel_rfl, by decide⟩
      · exact ⟨3, by kernel_rfl, by kernel_rfl, by decide⟩
      · exact ⟨4, by kernel_rfl, by kernel_rfl, by decide⟩
      · exact ⟨5, by kernel_rfl, by kernel_rfl, by decide⟩
      · exact ⟨6, by kernel_rfl, by kernel_rfl, by decide⟩) hg
    obtain ⟨x0, e0, hx0⟩ := ints_of hn h0
    cases e0
    have lx0 := (ints_ok h0).1
    have hx1 := script_of hn h1
    obtain ⟨x2, e2, hx2⟩ := ints_of hn h2
    cases e2
    have lx2 := (ints_ok h2).1
    obtain ⟨x3, e3, hx3⟩ := ints_of hn h3
    cases e3
    have lx3 := (ints_ok h3).1
    obtain ⟨e4, r4⟩ := (h4 : [v4] = [.int .i64 a.2.2.2.2.1] ∧ -9223372036854775808 ≤ a.2.2.2.2.1 ∧ a.2.2.2.2.1 ≤ 9223372036854775807)
    cases e4
    obtain ⟨x5, e5, hx5⟩ := ints_of hn h5
    cases e5
    have lx5 := (ints_ok h5).1
    obtain ⟨⟨b, τ⟩, e, hr⟩ := incrSays_plain (m := a.2.2.2.2.1) hg' hx0 hx1 hx2 hx3 hx5 (by omega) (by omega) (by omega) (by omega) (fun v hv => ((ints_ok h3).2 v hv).2)
    cases (show b = true from hr)
    exact ⟨τ, e⟩
  · subst he
    have hb := trodAll_below Tryd.laidOut hw (ts := [26, 28, 26, 26, 3, 26]) (fun t ht => by
      simp only [List.mem_cons, List.not_mem_nil, or_false] at ht; rcases ht with rfl | rfl | rfl | rfl | rfl | rfl <;> exact ⟨by kernel_rfl, of_decide_eq_true (by kernel_rfl)⟩) hA' (fun x hx => by simpa using hW'.lt x hx)
    exact ⟨_, rfl, _, _, _, _, _, _, hW', (trodAll_mk1 (shut_bool Tryd.underlying4 true) : DataW.TrodAll enc Tryd.prog W' _ _ _ [4] [.bool true] [.lit (.bool true)] _), hb, hV, hw.frame _, fun h => by cases h⟩

set_option maxRecDepth 100000 in
theorem IncrSays_holds : Rows.IncrSaysSaid :=
  OpenClaim.holds_of_wide 4 Tryd.f4 rfl rfl rfl rfl rfl rfl rfl ⟨rfl, rfl, rfl, rfl, rfl⟩ rfl rfl rfl rfl rfl (by kernel_rfl) Tryd.func4 (by kernel_rfl)
    (of_decide_eq_true (by kernel_rfl)) (by unfold Func.isWrapper; first | (rw [if_pos (by decide +kernel)]; kernel_rfl) | (rw [if_neg (by decide +kernel)]; exact ⟨rfl, rfl⟩))
    (fun os started H enc _ => IncrSays_lifted os started H enc)

set_option maxRecDepth 100000 in
theorem IncrSays_card : Rows.IncrSaysCardSaid :=
  Claim7.holds_tied_plain_at .later [] [.sentinel, .sentinel, .sentinel, .sentinel, .sentinel, .sentinel, .sentinel] true (true, "a96df2655ede89aa27b8e4a1b77ae2f42fc06fe3ce0b5d7a1a0d25f584a6c5d6") true
    IncrSays_holds (fun _ h => by cases h) (by kernel_rfl) (fun _ h => by cases h) incrSays_row_tie rfl ⟨rfl, rfl⟩ (by kernel_rfl) rfl
    (fun f fn hf hfn => by
      obtain rfl : f = 4 := Option.some.inj ((show Tryd.prog.funcNamed "skolem/skolemlaw19.IncrSays" = some 4 by kernel_rfl).symm.trans hf) |>.symm
      obtain rfl : fn = Tryd.f4 := (Option.some.inj (Tryd.func4.symm.trans hfn)).symm
      exact ⟨by kernel_rfl, fun j t ht => by
        rw [Tryd.params4] at ht
        have hm : t ∈ [26, 28, 26, 26, 3, 26] := by simpa using Array.mem_of_getElem? ht
        have hall : ([26, 28, 26, 26, 3, 26].all fun u => !Tryd.prog.wantsStandIn u) = true := by kernel_rfl
        exact (show Tryd.prog.wantsStandIn t = false by simpa using List.all_eq_true.1 hall t hm)⟩)
    (by kernel_rfl)
end Go.Proofs.YtekehmgfedmflaaDoor.A
