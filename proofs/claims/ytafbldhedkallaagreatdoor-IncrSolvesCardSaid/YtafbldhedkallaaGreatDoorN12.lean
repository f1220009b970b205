/- IncrSolves: for every input the call returns true, and each argument reads afterwards as0 it read before. Conditions: those that the given statement IncrSolvesCardSaid itself bears; none is added. -/
import Derived.Test.YtafbldhedkallaaGreatDoorCards
import Derived.Test.YtafbldhedkallaaGreatDoorX13
import Derived.Test.YtafbldhedkallaaGreatDoorX12
set_option linter.all false

namespace Go.Proofs.YtafbldhedkallaaGreatDoor.A
open Go Go.ChangeShapes Go.WideShapes Go.ChangeAt Go.RowKit Go.Proofs.YtafbldhedkallaaGreatDoor
def IncrSolves.laid : List (String × Nat × List UInt8) := [("skolem/api.ErrLimit", 3, [109, 111, 114, 101, 32, 116, 104, 97, 110, 32, 109, 97, 121, 32, 98, 101]), ("skolem/api.ErrBudget", 1, [116, 104, 101, 32, 98, 117, 100, 103, 101, 116, 32, 105, 115, 32, 117, 115, 101, 100, 32, 117, 112]), ("skolem/api.ErrRange", 0, [97, 32, 110, 117, 109, 98, 101, 114, 32, 111, 117, 116, 32, 111, 102, 32, 105, 116, 115, 32, 114, 97, 110, 103, 101])]
def IncrSolves.args : Args Tryz.prog ((List Int) × (List Int × List Int × List Int × List Int × Int × Int) × (List (List Int)) × (List (List Int)) × Unit) := (Args.cons Tryz.cIs (Args.consS Tryz.cScript (Args.cons Tryz.cIss (Args.cons Tryz.cIss Args.nil rfl (.inl ⟨_, Tryz.underlying28⟩)) rfl (.inl ⟨_, Tryz.underlying28⟩)) ⟨_, Tryz.underlying24⟩) rfl (.inl ⟨_, Tryz.underlying22⟩))

set_option maxRecDepth 100000 in
theorem IncrSolves_lifted (os : Os) (started : os.Started) (H : Type) (enc : TypeId × Value → H) :
    ReturnsInHanded {} Tryz.checked os 12 .any (fun w args => (Rows.incrSolvesSpec.pre enc Tryz.prog Tryz.f12 [] false w args ∧ laidMetH Tryz.prog Rows.incrSolvesRow.laid w) ∧ sizedMet enc Tryz.prog Tryz.f12 (OpenSpec.ofChange Rows.incrSolvesSpec) false w args)
      (Rows.incrSolvesSpec.post enc Tryz.prog Tryz.f12 false true false false) := by
  refine y5k_ (C := Tryz.checked) (X := fun w _ => laidMetH Tryz.prog Rows.incrSolvesRow.laid w) 7 (fun _ _ _ hh h => h.of_heap hh) Tryz.own started (by kernel_rfl) Tryz.func12 (Nat.le_of_ble_eq_true (by kernel_rfl)) Tryz.rows
    (ChangeSpec.witness_shaped (enc := enc) (C := Tryz.checked) (os := os) (X := fun w _ => laidMetH Tryz.prog Rows.incrSolvesRow.laid w) false (World.laidAll Tryz.prog os Rows.incrSolvesRow.laid) #[.slice none 0 0, .agg #[.slice none 0 0, .slice none 0 0, .slice none 0 0, .slice none 0 0, .int .i64 0, .int .i64 0], .slice none 0 0, .slice none 0 0] 8 (World.laidAll_os _ _ _)
      (World.shaped_of_ZipB (by kernel_rfl) (by kernel_rfl)) (by kernel_rfl) (by kernel_rfl) (by kernel_rfl)
      (by rw [MakeChecks.laidMetH_plain _ _ _ (by kernel_rfl)]; exact laidMet_laidAll _ (by kernel_rfl) (by kernel_rfl))) ?_
  intro W base args ds gs before hval0 hW hz hL hNG
  have hval : ∀ (j : Nat) t v, Tryz.f12.params[j]? = some t → args[j]? = some v → Value.okWide Tryz.prog W .any base t v := hval0
  rw [MakeChecks.laidMetH_plain _ _ _ (by kernel_rfl)] at hL
  obtain ⟨ps, hlv, _, hlr⟩ := hL
  have hsn := y68_ Tryz.snt IncrSolves.laid ps hlv (fun x hx => by
    simp only [IncrSolves.laid, List.mem_cons, List.not_mem_nil, or_false] at hx
    rcases hx with rfl | rfl | rfl <;> exact ⟨by kernel_rfl, by kernel_rfl⟩) hlr
  have hgl : ∀ x ∈ IncrSolves.laid.map (·.2), ∃ a, SntAt W 247 x.1 x.2 a := fun x hx => by
    obtain ⟨y, hy, rfl⟩ := List.mem_map.1 hx
    exact hsn y hy
  have hW' := hW
  obtain ⟨p, q, hA0, hV, rfl, hfz, hnd⟩ := hW
  have hA : DataW.TrodAll enc Tryz.prog W 0 (fun _ => true) true Tryz.f12.params.toList args.toList ds p := hA0
  obtain ⟨rfl, rfl⟩ := trodVars_none hV
  rw [Tryz.params12] at hA hval hz
  have hfit : ∀ k ∈ DataW.weightsEach Tryz.prog [22, 24, 28, 28] ds, k ≤ reachBytes := by
    have h1 : (DataW.weightsEach Tryz.prog ([22, 24, 28, 28] ++ []) (ds ++ [])).all (· ≤ reachBytes) = true := hz
    simpa using h1
  clear hA0 hval0
  simp only [List.append_nil] at hW'
  have hA' := hA
  obtain ⟨v0, v1, v2, v3, d0, d1, d2, d3, p0, p1, p2, p3, rfl, rfl, rfl, -, -, -, -⟩ := trodAll_four hA
  have hts : IncrSolves.args.ts = [22, 24, 28, 28] := rfl
  refine (yes_ Go.Proofs.YtafbldhedkallaaGreatDoor.A.W.z114_ok IncrSolves.args 247 (IncrSolves.laid.map (·.2)) (fun a cs σ hn hg h => ?_) hA' (fun j t v h1 h2 => hval j t v (by rw [hts] at h1; simpa using h1) h2) hfit hNG hgl).mono fun e W' ⟨he, hw⟩ => ?_
  · obtain ⟨v0, vs0, rfl, h0, t0⟩ := h
    obtain ⟨v1, vs1, rfl, h1, t1⟩ := t0
    obtain ⟨v2, vs2, rfl, h2, t2⟩ := t1
    obtain ⟨v3, vs3, rfl, h3, t3⟩ := t2
    have t3 : vs3 = [] := t3
    subst t3
    have hg' : GlS [.limit, .budget, .range] σ := yjn_ hn _ _ (fun e he => by
      simp only [List.mem_cons, List.not_mem_nil, or_false] at he
      rcases he with rfl | rfl | rfl
      · exact ⟨0, by kernel_rfl, by kernel_rfl, by decide⟩
      · exact ⟨1, by kernel_rfl, by kernel_rfl, by decide⟩
      · exact ⟨2, by kernel_rfl, by kernel_rfl, by decide⟩) hg
    obtain ⟨x0, e0, hx0⟩ := y43_ hn h0
    cases e0
    have lx0 := (yda_ h0).1
    have hx1 := yfu_ hn h1
    obtain ⟨x2, e2, hx2⟩ := ybt_ hn h2
    cases e2
    obtain ⟨lx2, ly2⟩ := ybu_ h2
    obtain ⟨x3, e3, hx3⟩ := ybt_ hn h3
    cases e3
    obtain ⟨lx3, ly3⟩ := ybu_ h3
    obtain ⟨⟨b, τ⟩, e, hr⟩ := y7m_ hx0 hx1 hx2 hx3 (by omega) (by omega) (by omega) (fun c hc => by have := (ly2 c hc).1; omega) (fun c hc => by have := (ly3 c hc).1; omega)
    cases (show b = true from hr)
    exact ⟨τ, e⟩
  · subst he
    have hb := y63_ Tryz.laidOut hw (ts := [22, 24, 28, 28]) (fun t ht => by
      simp only [List.mem_cons, List.not_mem_nil, or_false] at ht; rcases ht with rfl | rfl | rfl | rfl <;> exact ⟨by kernel_rfl, of_decide_eq_true (by kernel_rfl)⟩) hA' (fun x hx => by simpa using hW'.lt x hx)
    exact ⟨_, rfl, _, _, _, _, _, _, hW', (trodAll_mk1 (shut_bool Tryz.underlying4 true) : DataW.TrodAll enc Tryz.prog W' _ _ _ [4] [.bool true] [.lit (.bool true)] _), hb, hV, hw.frame _, fun h => by cases h⟩

set_option maxRecDepth 100000 in
theorem IncrSolves_holds : Rows.IncrSolvesSaid :=
  OpenClaim.holds_of_wide 12 Tryz.f12 rfl rfl rfl rfl rfl rfl rfl ⟨rfl, rfl, rfl, rfl, rfl⟩ rfl rfl rfl rfl rfl (by kernel_rfl) Tryz.func12 (by kernel_rfl)
    (of_decide_eq_true (by kernel_rfl)) (by unfold Func.isWrapper; first | (rw [if_pos (by decide +kernel)]; kernel_rfl) | (rw [if_neg (by decide +kernel)]; exact ⟨rfl, rfl⟩))
    (fun os started H enc _ => IncrSolves_lifted os started H enc)

set_option maxRecDepth 100000 in
theorem IncrSolves_card : Rows.IncrSolvesCardSaid :=
  Claim7.holds_tied_plain_at .later [] [.sentinel, .sentinel, .sentinel] true (true, "d3f08bc9b840a75add07a115cecd19ca221019613f4d0ffe120d27ae60b99ab4") true
    IncrSolves_holds (fun _ h => by cases h) (by kernel_rfl) (fun _ h => by cases h) incrSolves_row_tie rfl ⟨rfl, rfl⟩ (by kernel_rfl) rfl
    (fun f fn hf hfn => by
      obtain rfl : f = 12 := Option.some.inj ((show Tryz.prog.funcNamed "skolem/skolemlaw19.IncrSolves" = some 12 by kernel_rfl).symm.trans hf) |>.symm
      obtain rfl : fn = Tryz.f12 := (Option.some.inj (Tryz.func12.symm.trans hfn)).symm
      exact ⟨by kernel_rfl, fun j t ht => by
        rw [Tryz.params12] at ht
        have hm : t ∈ [22, 24, 28, 28] := by simpa using Array.mem_of_getElem? ht
        have hall : ([22, 24, 28, 28].all fun u => !Tryz.prog.wantsStandIn u) = true := by kernel_rfl
        exact (show Tryz.prog.wantsStandIn t = false by simpa using List.all_eq_true.1 hall t hm)⟩)
    (by kernel_rfl)
end Go.Proofs.YtafbldhedkallaaGreatDoor.A
