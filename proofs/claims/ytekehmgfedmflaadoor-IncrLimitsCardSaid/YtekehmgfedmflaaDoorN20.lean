/- IncrLimits: for every input the call returns true, and each argument reads afterwards as0 it read before. Conditions: those that the given statement IncrLimitsCardSaid itself bears; none is added. -/
import Derived.Test.YtekehmgfedmflaaDoorCards
import Derived.Test.YtekehmgfedmflaaDoorX11
import Derived.Test.YtekehmgfedmflaaDoorX10
set_option linter.all false

namespace Go.Proofs.YtekehmgfedmflaaDoor.A
open Go Go.ChangeShapes Go.WideShapes Go.ChangeAt Go.RowKit Go.Proofs.YtekehmgfedmflaaDoor
def IncrLimits.laid : List (String × Nat × List UInt8) := [("skolem/api.ErrText", 2, [110, 111, 116, 32, 97, 115, 32, 105, 116, 32, 105, 115, 32, 119, 114, 105, 116, 116, 101, 110]), ("skolem/api.ErrLimit", 1, [109, 111, 114, 101, 32, 116, 104, 97, 110, 32, 109, 97, 121, 32, 98, 101]), ("skolem/api.ErrBudget", 3, [116, 104, 101, 32, 98, 117, 100, 103, 101, 116, 32, 105, 115, 32, 117, 115, 101, 100, 32, 117, 112]), ("skolem/api.ErrRange", 0, [97, 32, 110, 117, 109, 98, 101, 114, 32, 111, 117, 116, 32, 111, 102, 32, 105, 116, 115, 32, 114, 97, 110, 103, 101]), ("skolem/api.ErrBlocks", 4, [109, 111, 114, 101, 32, 116, 104, 97, 110, 32, 116, 119, 111, 32, 98, 108, 111, 99, 107, 115]), ("skolem/api.ErrProof", 5, [97, 32, 115, 116, 101, 112, 32, 116, 104, 97, 116, 32, 100, 111, 101, 115, 32, 110, 111, 116, 32, 102, 111, 108, 108, 111, 119]), ("skolem/api.ErrCert", 6, [110, 111, 32, 99, 101, 114, 116, 105, 102, 105, 99, 97, 116, 101, 32, 111, 102, 32, 105, 116])]
def IncrLimits.args : Args Tryd.prog (Int × Int × Unit) := (Args.cons Tryd.cI (Args.cons Tryd.cI Args.nil rfl (.inr (.inl ⟨_, Tryd.underlying3⟩))) rfl (.inr (.inl ⟨_, Tryd.underlying3⟩)))

set_option maxRecDepth 100000 in
theorem IncrLimits_lifted (os : Os) (started : os.Started) (H : Type) (enc : TypeId × Value → H) :
    ReturnsInHanded {} Tryd.checked os 3 .any (fun w args => (Rows.incrLimitsSpec.pre enc Tryd.prog Tryd.f3 [] false w args ∧ laidMetH Tryd.prog Rows.incrLimitsRow.laid w) ∧ sizedMet enc Tryd.prog Tryd.f3 (OpenSpec.ofChange Rows.incrLimitsSpec) false w args)
      (Rows.incrLimitsSpec.post enc Tryd.prog Tryd.f3 false true false false) := by
  refine returnsInHanded_laid (C := Tryd.checked) (X := fun w _ => laidMetH Tryd.prog Rows.incrLimitsRow.laid w) 7 (fun _ _ _ hh h => h.of_heap hh) Tryd.own started (by kernel_rfl) Tryd.func3 (Nat.le_of_ble_eq_true (by kernel_rfl)) Tryd.rows
    (ChangeSpec.witness_shaped (enc := enc) (C := Tryd.checked) (os := os) (X := fun w _ => laidMetH Tryd.prog Rows.incrLimitsRow.laid w) false (World.laidAll Tryd.prog os Rows.incrLimitsRow.laid) #[.int .i64 0, .int .i64 0] 8 (World.laidAll_os _ _ _)
      (World.shaped_of_ZipB (by kernel_rfl) (by kernel_rfl)) (by kernel_rfl) (by kernel_rfl) (by kernel_rfl)
      (by rw [MakeChecks.laidMetH_plain _ _ _ (by kernel_rfl)]; exact laidMet_laidAll _ (by kernel_rfl) (by kernel_rfl))) ?_
  intro W base args ds gs before hval0 hW hz hL hNG
  have hval : ∀ (j : Nat) t v, Tryd.f3.params[j]? = some t → args[j]? = some v → Value.okWide Tryd.prog W .any base t v := hval0
  rw [MakeChecks.laidMetH_plain _ _ _ (by kernel_rfl)] at hL
  obtain ⟨ps, hlv, _, hlr⟩ := hL
  have hsn := snts_of_laid Tryd.snt IncrLimits.laid ps hlv (fun x hx => by
    simp only [IncrLimits.laid, List.mem_cons, List.not_mem_nil, or_false] at hx
    rcases hx with rfl | rfl | rfl | rfl | rfl | rfl | rfl <;> exact ⟨by kernel_rfl, by kernel_rfl⟩) hlr
  have hgl : ∀ x ∈ IncrLimits.laid.map (·.2), ∃ a, SntAt W 140 x.1 x.2 a := fun x hx => by
    obtain ⟨y, hy, rfl⟩ := List.mem_map.1 hx
    exact hsn y hy
  have hW' := hW
  obtain ⟨p, q, hA0, hV, rfl, hfz, hnd⟩ := hW
  have hA : DataW.TrodAll enc Tryd.prog W 0 (fun _ => true) true Tryd.f3.params.toList args.toList ds p := hA0
  obtain ⟨rfl, rfl⟩ := trodVars_none hV
  rw [Tryd.params3] at hA hval hz
  have hfit : ∀ k ∈ DataW.weightsEach Tryd.prog [3, 3] ds, k ≤ reachBytes := by
    have h1 : (DataW.weightsEach Tryd.prog ([3, 3] ++ []) (ds ++ [])).all (· ≤ reachBytes) = true := hz
    simpa using h1
  clear hA0 hval0
  simp only [List.append_nil] at hW'
  have hA' := hA
  obtain ⟨v0, v1, d0, d1, p0, p1, rfl, rfl, rfl, -, -⟩ := trodAll_two hA
  have hts : IncrLimits.args.ts = [3, 3] := rfl
  refine (law_callsG Go.Proofs.YtekehmgfedmflaaDoor.A.W.skolemlaw19_IncrLimits_ok IncrLimits.args 140 (IncrLimits.laid.map (·.2)) (fun a cs σ hn hg h => ?_) hA' (fun j t v h1 h2 => hval j t v (by rw [hts] at h1; simpa using h1) h2) hfit hNG hgl).mono fun e W' ⟨he, hw⟩ => ?_
  · obtain ⟨v0, vs0, rfl, h0, t0⟩ := h
    obtain ⟨v1, vs1, rfl, h1, t1⟩ := t0
    have t1 : vs1 = [] := t1
    subst t1
    have hg' : GlS [.text, .limit, .budget, .range, .blocks, .proof, .cert] σ := gls_of hn _ _ (fun e he => by
      simp only [List.mem_cons, List.not_mem_nil, or_false] at he
      rcases he with rfl | rfl | rfl | rfl | rfl | rfl | rfl
      · exact ⟨0, by kernel_rfl, by kernel_rfl, by decide⟩
      · exact ⟨1, by kernel_rfl, by kernel_rfl, by decide⟩
      · exact ⟨2, by kernel_rfl, by kernel_rfl, by decide⟩
      · exact ⟨3, by kernel_rfl, by kernel_rfl, by decide⟩
      · exact ⟨4, by kernel_rfl, by kernel_rfl, by decide⟩
      · exact ⟨5, by kernel_rfl, by kernel_rfl, by decide⟩
      · exact ⟨6, by kernel_rfl, by kernel_rfl, by decide⟩) hg
    obtain ⟨e0, r0⟩ := (h0 : [v0] = [.int .i64 a.1] ∧ -9223372036854775808 ≤ a.1 ∧ a.1 ≤ 9223372036854775807)
    cases e0
    obtain ⟨e1, r1⟩ := (h1 : [v1] = [.int .i64 a.2.1] ∧ -9223372036854775808 ≤ a.2.1 ∧ a.2.1 ≤ 9223372036854775807)
    cases e1
    obtain ⟨⟨b, τ⟩, e, hr⟩ := incrLimits_plain (a := a.1) (b := a.2.1) hg'
    cases (show b = true from hr)
    exact ⟨τ, e⟩
  · subst he
    have hb := trodAll_below Tryd.laidOut hw (ts := [3, 3]) (fun t ht => by
      simp only [List.mem_cons, List.not_mem_nil, or_false] at ht; rcases ht with rfl | rfl <;> exact ⟨by kernel_rfl, of_decide_eq_true (by kernel_rfl)⟩) hA' (fun x hx => by simpa using hW'.lt x hx)
    exact ⟨_, rfl, _, _, _, _, _, _, hW', (trodAll_mk1 (shut_bool Tryd.underlying4 true) : DataW.TrodAll enc Tryd.prog W' _ _ _ [4] [.bool true] [.lit (.bool true)] _), hb, hV, hw.frame _, fun h => by cases h⟩

set_option maxRecDepth 100000 in
theorem IncrLimits_holds : Rows.IncrLimitsSaid :=
  OpenClaim.holds_of_wide 3 Tryd.f3 rfl rfl rfl rfl rfl rfl rfl ⟨rfl, rfl, rfl, rfl, rfl⟩ rfl rfl rfl rfl rfl (by kernel_rfl) Tryd.func3 (by kernel_rfl)
    (of_decide_eq_true (by kernel_rfl)) (by unfold Func.isWrapper; first | (rw [if_pos (by decide +kernel)]; kernel_rfl) | (rw [if_neg (by decide +kernel)]; exact ⟨rfl, rfl⟩))
    (fun os started H enc _ => IncrLimits_lifted os started H enc)

set_option maxRecDepth 100000 in
theorem IncrLimits_card : Rows.IncrLimitsCardSaid :=
  Claim7.holds_tied_plain_at .later [] [.sentinel, .sentinel, .sentinel, .sentinel, .sentinel, .sentinel, .sentinel] true (true, "a96df2655ede89aa27b8e4a1b77ae2f42fc06fe3ce0b5d7a1a0d25f584a6c5d6") true
    IncrLimits_holds (fun _ h => by cases h) (by kernel_rfl) (fun _ h => by cases h) incrLimits_row_tie rfl ⟨rfl, rfl⟩ (by kernel_rfl) rfl
    (fun f fn hf hfn => by
      obtain rfl : f = 3 := Option.some.inj ((show Tryd.prog.funcNamed "skolem/skolemlaw19.IncrLimits" = some 3 by kernel_rfl).symm.trans hf) |>.symm
      obtain rfl : fn = Tryd.f3 := (Option.some.inj (Tryd.func3.symm.trans hfn)).symm
      exact ⟨by kernel_rfl, fun j t ht => by
        rw [Tryd.params3] at ht
        have hm : t ∈ [3, 3] := by simpa using Array.mem_of_getElem? ht
        have hall : ([3, 3].all fun u => !Tryd.prog.wantsStandIn u) = true := by kernel_rfl
        exact (show Tryd.prog.wantsStandIn t = false by simpa using List.all_eq_true.1 hall t hm)⟩)
    (by kernel_rfl)
end Go.Proofs.YtekehmgfedmflaaDoor.A
