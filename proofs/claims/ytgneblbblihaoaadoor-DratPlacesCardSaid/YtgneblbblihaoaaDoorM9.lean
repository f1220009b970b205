/- DratPlaces: for every input the call returns true, and each argument reads afterwards as0 it read before. Conditions: those that the given statement DratPlacesCardSaid itself bears; none is added. -/
import Derived.Test.YtgneblbblihaoaaDoorCards
import Derived.Test.YtgneblbblihaoaaDoorX10
import Derived.Test.YtgneblbblihaoaaDoorX9
set_option linter.all false

namespace Go.Proofs.YtgneblbblihaoaaDoor.A
open Go Go.ChangeShapes Go.WideShapes Go.ChangeAt Go.RowKit Go.Proofs.YtgneblbblihaoaaDoor
def DratPlaces.laid : List (String × Nat × List UInt8) := [("skolem/api.ErrText", 4, [110, 111, 116, 32, 97, 115, 32, 105, 116, 32, 105, 115, 32, 119, 114, 105, 116, 116, 101, 110]), ("skolem/api.ErrLimit", 3, [109, 111, 114, 101, 32, 116, 104, 97, 110, 32, 109, 97, 121, 32, 98, 101]), ("skolem/api.ErrBudget", 5, [116, 104, 101, 32, 98, 117, 100, 103, 101, 116, 32, 105, 115, 32, 117, 115, 101, 100, 32, 117, 112]), ("skolem/api.ErrRange", 2, [97, 32, 110, 117, 109, 98, 101, 114, 32, 111, 117, 116, 32, 111, 102, 32, 105, 116, 115, 32, 114, 97, 110, 103, 101]), ("skolem/api.ErrBlocks", 0, [109, 111, 114, 101, 32, 116, 104, 97, 110, 32, 116, 119, 111, 32, 98, 108, 111, 99, 107, 115]), ("skolem/api.ErrProof", 1, [97, 32, 115, 116, 101, 112, 32, 116, 104, 97, 116, 32, 100, 111, 101, 115, 32, 110, 111, 116, 32, 102, 111, 108, 108, 111, 119]), ("skolem/api.ErrCert", 6, [110, 111, 32, 99, 101, 114, 116, 105, 102, 105, 99, 97, 116, 101, 32, 111, 102, 32, 105, 116])]
def DratPlaces.args : Args Tryd.prog (Int × Int × Bool × Unit) := (Args.cons Tryd.cI (Args.cons Tryd.cI (Args.cons Tryd.cB Args.nil rfl (.inr (.inr Tryd.underlying4))) rfl (.inr (.inl ⟨_, Tryd.underlying3⟩))) rfl (.inr (.inl ⟨_, Tryd.underlying3⟩)))

set_option maxRecDepth 100000 in
theorem DratPlaces_lifted (os : Os) (started : os.Started) (H : Type) (enc : TypeId × Value → H) :
    ReturnsInHanded {} Tryd.checked os 9 .any (fun w args => (Rows.dratPlacesSpec.pre enc Tryd.prog Tryd.f9 [] false w args ∧ laidMetH Tryd.prog Rows.dratPlacesRow.laid w) ∧ sizedMet enc Tryd.prog Tryd.f9 (OpenSpec.ofChange Rows.dratPlacesSpec) false w args)
      (Rows.dratPlacesSpec.post enc Tryd.prog Tryd.f9 false true false false) := by
  refine returnsInHanded_laid (C := Tryd.checked) (X := fun w _ => laidMetH Tryd.prog Rows.dratPlacesRow.laid w) 7 (fun _ _ _ hh h => h.of_heap hh) Tryd.own started (by kernel_rfl) Tryd.func9 (Nat.le_of_ble_eq_true (by kernel_rfl)) Tryd.rows
    (ChangeSpec.witness_shaped (enc := enc) (C := Tryd.checked) (os := os) (X := fun w _ => laidMetH Tryd.prog Rows.dratPlacesRow.laid w) false (World.laidAll Tryd.prog os Rows.dratPlacesRow.laid) #[.int .i64 0, .int .i64 0, .bool false] 8 (World.laidAll_os _ _ _)
      (World.shaped_of_ZipB (by kernel_rfl) (by kernel_rfl)) (by kernel_rfl) (by kernel_rfl) (by kernel_rfl)
      (by rw [MakeChecks.laidMetH_plain _ _ _ (by kernel_rfl)]; exact laidMet_laidAll _ (by kernel_rfl) (by kernel_rfl))) ?_
  intro W base args ds gs before hval0 hW hz hL hNG
  have hval : ∀ (j : Nat) t v, Tryd.f9.params[j]? = some t → args[j]? = some v → Value.okWide Tryd.prog W .any base t v := hval0
  rw [MakeChecks.laidMetH_plain _ _ _ (by kernel_rfl)] at hL
  obtain ⟨ps, hlv, _, hlr⟩ := hL
  have hsn := snts_of_laid Tryd.snt DratPlaces.laid ps hlv (fun x hx => by
    simp only [DratPlaces.laid, List.mem_cons, List.not_mem_nil, or_false] at hx
    rcases hx with rfl | rfl | rfl | rfl | rfl | rfl | rfl <;> exact ⟨by kernel_rfl, by kernel_rfl⟩) hlr
  have hgl : ∀ x ∈ DratPlaces.laid.map (·.2), ∃ a, SntAt W 224 x.1 x.2 a := fun x hx => by
    obtain ⟨y, hy, rfl⟩ := List.mem_map.1 hx
    exact hsn y hy
  have hW' := hW
  obtain ⟨p, q, hA0, hV, rfl, hfz, hnd⟩ := hW
  have hA : DataW.TrodAll enc Tryd.prog W 0 (fun _ => true) true Tryd.f9.params.toList args.toList ds p := hA0
  obtain ⟨rfl, rfl⟩ := trodVars_none hV
  rw [Tryd.params9] at hA hval hz
  have hfit : ∀ k ∈ DataW.weightsEach Tryd.prog [3, 3, 4] ds, k ≤ reachBytes := by
    have h1 : (DataW.weightsEach Tryd.prog ([3, 3, 4] ++ []) (ds ++ [])).all (· ≤ reachBytes) = true := hz
    simpa using h1
  clear hA0 hval0
  simp only [List.append_nil] at hW'
  have hA' := hA
  obtain ⟨v0, v1, v2, d0, d1, d2, p0, p1, p2, rfl, rfl, rfl, -, -, -⟩ := trodAll_three hA
  have hts : DratPlaces.args.ts = [3, 3, 4] := rfl
  refine (law_callsG Go.Proofs.YtgneblbblihaoaaDoor.A.W.skolemlaw22_DratPlaces_ok DratPlaces.args 224 (DratPlaces.laid.map (·.2)) (fun a cs σ hn hg h => ?_) hA' (fun j t v h1 h2 => hval j t v (by rw [hts] at h1; simpa using h1) h2) hfit hNG hgl).mono fun e W' ⟨he, hw⟩ => ?_
  · obtain ⟨v0, vs0, rfl, h0, t0⟩ := h
    obtain ⟨v1, vs1, rfl, h1, t1⟩ := t0
    obtain ⟨v2, vs2, rfl, h2, t2⟩ := t1
    have t2 : vs2 = [] := t2
    subst t2
    have hg' : GlS [.text, .limit, .budget, .range, .blocks, .proof, .cert] σ := gls_of hn _ _ (fun e he => by
      simp only [List.mem_cons, List.not_mem_nil, or_false] at he
      rcases he with rfl | rfl | rfl | rfl | rfl | rfl | rfl
      · exact ⟨0, by kernel_rfl, by kernel_rfl, by decide⟩
      · exact ⟨1, by kernel_rfl, by kernel_rfl, by decide⟩
      · exact ⟨2, by kernel_rfl, by kernel_rfl, by decide⟩
      · exact ⟨3, by kernel_rfl, by kernel_rfl, by decide⟩
      · exact ⟨4, by kernel_rfl, by kernel_rfl, by decide⟩
      · exact ⟨5, by kernel_rfl, by kernel_rfl, by decide⟩
      · exact ⟨6, by kernel_rfl, by kernel_rfl, by decide⟩) hg
    obtain ⟨e0, r0⟩ := (h0 : [v0] = [.int .i64 a.1] ∧ -9223372036854775808 ≤ a.1 ∧ a.1 ≤ 9223372036854775807)
    cases e0
    obtain ⟨e1, r1⟩ := (h1 : [v1] = [.int .i64 a.2.1] ∧ -9223372036854775808 ≤ a.2.1 ∧ a.2.1 ≤ 9223372036854775807)
    cases e1
    have e2 : [v2] = [.bool a.2.2.1] := h2
    cases e2
    obtain ⟨⟨b, τ⟩, e, hr⟩ := dratPlaces_plain (p := a.1) (q := a.2.1) (drop := a.2.2.1) hg'
    cases (show b = true from hr)
    exact ⟨τ, e⟩
  · subst he
    have hb := trodAll_below Tryd.laidOut hw (ts := [3, 3, 4]) (fun t ht => by
      simp only [List.mem_cons, List.not_mem_nil, or_false] at ht; rcases ht with rfl | rfl | rfl <;> exact ⟨by kernel_rfl, of_decide_eq_true (by kernel_rfl)⟩) hA' (fun x hx => by simpa using hW'.lt x hx)
    exact ⟨_, rfl, _, _, _, _, _, _, hW', (trodAll_mk1 (shut_bool Tryd.underlying4 true) : DataW.TrodAll enc Tryd.prog W' _ _ _ [4] [.bool true] [.lit (.bool true)] _), hb, hV, hw.frame _, fun h => by cases h⟩

set_option maxRecDepth 100000 in
theorem DratPlaces_holds : Rows.DratPlacesSaid :=
  OpenClaim.holds_of_wide 9 Tryd.f9 rfl rfl rfl rfl rfl rfl rfl ⟨rfl, rfl, rfl, rfl, rfl⟩ rfl rfl rfl rfl rfl (by kernel_rfl) Tryd.func9 (by kernel_rfl)
    (of_decide_eq_true (by kernel_rfl)) (by unfold Func.isWrapper; first | (rw [if_pos (by decide +kernel)]; kernel_rfl) | (rw [if_neg (by decide +kernel)]; exact ⟨rfl, rfl⟩))
    (fun os started H enc _ => DratPlaces_lifted os started H enc)

set_option maxRecDepth 100000 in
theorem DratPlaces_card : Rows.DratPlacesCardSaid :=
  Claim7.holds_tied_plain_at .later [] [.sentinel, .sentinel, .sentinel, .sentinel, .sentinel, .sentinel, .sentinel] true (true, "cc832d4475c1df2f249c994398ea3a8dcd04cfe5fab5540c068fe3f33fccaed6") true
    DratPlaces_holds (fun _ h => by cases h) (by kernel_rfl) (fun _ h => by cases h) dratPlaces_row_tie rfl ⟨rfl, rfl⟩ (by kernel_rfl) rfl
    (fun f fn hf hfn => by
      obtain rfl : f = 9 := Option.some.inj ((show Tryd.prog.funcNamed "skolem/skolemlaw22.DratPlaces" = some 9 by kernel_rfl).symm.trans hf) |>.symm
      obtain rfl : fn = Tryd.f9 := (Option.some.inj (Tryd.func9.symm.trans hfn)).symm
      exact ⟨by kernel_rfl, fun j t ht => by
        rw [Tryd.params9] at ht
        have hm : t ∈ [3, 3, 4] := by simpa using Array.mem_of_getElem? ht
        have hall : ([3, 3, 4].all fun u => !Tryd.prog.wantsStandIn u) = true := by kernel_rfl
        exact (show Tryd.prog.wantsStandIn t = false by simpa using List.all_eq_true.1 hall t hm)⟩)
    (by kernel_rfl)
end Go.Proofs.YtgneblbblihaoaaDoor.A
