/- SatHoles: for every input the call returns true, and each argument reads afterwards as0 it read before. Conditions: those that the given statement SatHolesCardSaid itself bears; none is added. -/
import Derived.Test.YtafbldhedkallaaGreatDoorCards
import Derived.Test.YtafbldhedkallaaGreatDoorX12
import Derived.Test.YtafbldhedkallaaGreatDoorX11
set_option linter.all false

namespace Go.Proofs.YtafbldhedkallaaGreatDoor.A
open Go Go.ChangeShapes Go.WideShapes Go.ChangeAt Go.RowKit Go.Proofs.YtafbldhedkallaaGreatDoor
def SatHoles.laid : List (String × Nat × List UInt8) := [("skolem/api.ErrLimit", 3, [109, 111, 114, 101, 32, 116, 104, 97, 110, 32, 109, 97, 121, 32, 98, 101]), ("skolem/api.ErrBudget", 1, [116, 104, 101, 32, 98, 117, 100, 103, 101, 116, 32, 105, 115, 32, 117, 115, 101, 100, 32, 117, 112]), ("skolem/api.ErrRange", 0, [97, 32, 110, 117, 109, 98, 101, 114, 32, 111, 117, 116, 32, 111, 102, 32, 105, 116, 115, 32, 114, 97, 110, 103, 101])]
def SatHoles.args : Args Tryz.prog (Int × (List Int × List Int × List Int × List Int × Int × Int) × Bool × Unit) := (Args.cons Tryz.cI (Args.consS Tryz.cScript (Args.cons Tryz.cB Args.nil rfl (.inr (.inr Tryz.underlying4))) ⟨_, Tryz.underlying24⟩) rfl (.inr (.inl ⟨_, Tryz.underlying3⟩)))

set_option maxRecDepth 100000 in
theorem SatHoles_lifted (os : Os) (started : os.Started) (H : Type) (enc : TypeId × Value → H) :
    ReturnsInHanded {} Tryz.checked os 5 .any (fun w args => (Rows.satHolesSpec.pre enc Tryz.prog Tryz.f5 [] false w args ∧ laidMetH Tryz.prog Rows.satHolesRow.laid w) ∧ sizedMet enc Tryz.prog Tryz.f5 (OpenSpec.ofChange Rows.satHolesSpec) false w args)
      (Rows.satHolesSpec.post enc Tryz.prog Tryz.f5 false true false false) := by
  refine y4f_ (C := Tryz.checked) (X := fun w _ => laidMetH Tryz.prog Rows.satHolesRow.laid w) 7 (fun _ _ _ hh h => h.of_heap hh) Tryz.own started (by kernel_rfl) Tryz.func5 (Nat.le_of_ble_eq_true (by kernel_rfl)) Tryz.rows
    (ChangeSpec.witness_shaped (enc := enc) (C := Tryz.checked) (os := os) (X := fun w _ => laidMetH Tryz.prog Rows.satHolesRow.laid w) false (World.laidAll Tryz.prog os Rows.satHolesRow.laid) #[.int .i64 0, .agg #[.slice none 0 0, .slice none 0 0, .slice none 0 0, .slice none 0 0, .int .i64 0, .int .i64 0], .bool false] 8 (World.laidAll_os _ _ _)
      (World.shaped_of_ZipB (by kernel_rfl) (by kernel_rfl)) (by kernel_rfl) (by kernel_rfl) (by kernel_rfl)
      (by rw [MakeChecks.laidMetH_plain _ _ _ (by kernel_rfl)]; exact laidMet_laidAll _ (by kernel_rfl) (by kernel_rfl))) ?_
  intro W base args ds gs before hval0 hW hz hL hNG
  have hval : ∀ (j : Nat) t v, Tryz.f5.params[j]? = some t → args[j]? = some v → Value.okWide Tryz.prog W .any base t v := hval0
  rw [MakeChecks.laidMetH_plain _ _ _ (by kernel_rfl)] at hL
  obtain ⟨ps, hlv, _, hlr⟩ := hL
  have hsn := y57_ Tryz.snt SatHoles.laid ps hlv (fun x hx => by
    simp only [SatHoles.laid, List.mem_cons, List.not_mem_nil, or_false] at hx
    rcases hx with rfl | rfl | rfl <;> exact ⟨by kernel_rfl, by kernel_rfl⟩) hlr
  have hgl : ∀ x ∈ SatHoles.laid.map (·.2), ∃ a, SntAt W 247 x.1 x.2 a := fun x hx => by
    obtain ⟨y, hy, rfl⟩ := List.mem_map.1 hx
    exact hsn y hy
  have hW' := hW
  obtain ⟨p, q, hA0, hV, rfl, hfz, hnd⟩ := hW
  have hA : DataW.TrodAll enc Tryz.prog W 0 (fun _ => true) true Tryz.f5.params.toList args.toList ds p := hA0
  obtain ⟨rfl, rfl⟩ := trodVars_none hV
  rw [Tryz.params5] at hA hval hz
  have hfit : ∀ k ∈ DataW.weightsEach Tryz.prog [3, 24, 4] ds, k ≤ reachBytes := by
    have h1 : (DataW.weightsEach Tryz.prog ([3, 24, 4] ++ []) (ds ++ [])).all (· ≤ reachBytes) = true := hz
    simpa using h1
  clear hA0 hval0
  simp only [List.append_nil] at hW'
  have hA' := hA
  obtain ⟨v0, v1, v2, d0, d1, d2, p0, p1, p2, rfl, rfl, rfl, -, -, -⟩ := trodAll_three hA
  have hts : SatHoles.args.ts = [3, 24, 4] := rfl
  refine (yck_ Go.Proofs.YtafbldhedkallaaGreatDoor.A.W.z106_ok SatHoles.args 247 (SatHoles.laid.map (·.2)) (fun a cs σ hn hg h => ?_) hA' (fun j t v h1 h2 => hval j t v (by rw [hts] at h1; simpa using h1) h2) hfit hNG hgl).mono fun e W' ⟨he, hw⟩ => ?_
  · obtain ⟨v0, vs0, rfl, h0, t0⟩ := h
    obtain ⟨v1, vs1, rfl, h1, t1⟩ := t0
    obtain ⟨v2, vs2, rfl, h2, t2⟩ := t1
    have t2 : vs2 = [] := t2
    subst t2
    have hg' : GlS [.limit, .budget, .range] σ := ygy_ hn _ _ (fun e he => by
      simp only [List.mem_cons, List.not_mem_nil, or_false] at he
      rcases he with rfl | rfl | rfl
      · exact ⟨0, by kernel_rfl, by kernel_rfl, by decide⟩
      · exact ⟨1, by kernel_rfl, by kernel_rfl, by decide⟩
      · exact ⟨2, by kernel_rfl, by kernel_rfl, by decide⟩) hg
    obtain ⟨e0, r0⟩ := (h0 : [v0] = [.int .i64 a.1] ∧ -9223372036854775808 ≤ a.1 ∧ a.1 ≤ 9223372036854775807)
    cases e0
    have hx1 := ydb_ hn h1
    have e2 : [v2] = [.bool a.2.2.1] := h2
    cases e2
    obtain ⟨⟨b, τ⟩, e, hr⟩ := y8d_ (p0 := a.1) (room := a.2.2.1) (hg'.sub (by decide)) hx1
    cases (show b = true from hr)
    exact ⟨τ, e⟩
  · subst he
    have hb := y4y_ Tryz.laidOut hw (ts := [3, 24, 4]) (fun t ht => by
      simp only [List.mem_cons, List.not_mem_nil, or_false] at ht; rcases ht with rfl | rfl | rfl <;> exact ⟨by kernel_rfl, of_decide_eq_true (by kernel_rfl)⟩) hA' (fun x hx => by simpa using hW'.lt x hx)
    exact ⟨_, rfl, _, _, _, _, _, _, hW', (trodAll_mk1 (shut_bool Tryz.underlying4 true) : DataW.TrodAll enc Tryz.prog W' _ _ _ [4] [.bool true] [.lit (.bool true)] _), hb, hV, hw.frame _, fun h => by cases h⟩

set_option maxRecDepth 100000 in
theorem SatHoles_holds : Rows.SatHolesSaid :=
  OpenClaim.holds_of_wide 5 Tryz.f5 rfl rfl rfl rfl rfl rfl rfl ⟨rfl, rfl, rfl, rfl, rfl⟩ rfl rfl rfl rfl rfl (by kernel_rfl) Tryz.func5 (by kernel_rfl)
    (of_decide_eq_true (by kernel_rfl)) (by unfold Func.isWrapper; first | (rw [if_pos (by decide +kernel)]; kernel_rfl) | (rw [if_neg (by decide +kernel)]; exact ⟨rfl, rfl⟩))
    (fun os started H enc _ => SatHoles_lifted os started H enc)

set_option maxRecDepth 100000 in
theorem SatHoles_card : Rows.SatHolesCardSaid :=
  Claim7.holds_tied_plain_at .later [] [.sentinel, .sentinel, .sentinel] true (true, "d3f08bc9b840a75add07a115cecd19ca221019613f4d0ffe120d27ae60b99ab4") true
    SatHoles_holds (fun _ h => by cases h) (by kernel_rfl) (fun _ h => by cases h) satHoles_row_tie rfl ⟨rfl, rfl⟩ (by kernel_rfl) rfl
    (fun f fn hf hfn => by
      obtain rfl : f = 5 := Option.some.inj ((show Tryz.prog.funcNamed "skolem/skolemlaw18.SatHoles" = some 5 by kernel_rfl).symm.trans hf) |>.symm
      obtain rfl : fn = Tryz.f5 := (Option.some.inj (Tryz.func5.symm.trans hfn)).symm
      exact ⟨by kernel_rfl, fun j t ht => by
        rw [Tryz.params5] at ht
        have hm : t ∈ [3, 24, 4] := by simpa using Array.mem_of_getElem? ht
        have hall : ([3, 24, 4].all fun u => !Tryz.prog.wantsStandIn u) = true := by kernel_rfl
        exact (show Tryz.prog.wantsStandIn t = false by simpa using List.all_eq_true.1 hall t hm)⟩)
    (by kernel_rfl)
end Go.Proofs.YtafbldhedkallaaGreatDoor.A
