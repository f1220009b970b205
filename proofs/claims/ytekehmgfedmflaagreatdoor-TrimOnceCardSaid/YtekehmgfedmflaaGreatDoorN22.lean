/- TrimOnce: for every input the call returns true, and each argument reads afterwards as0 it read before. Conditions: those that the given statement TrimOnceCardSaid itself bears; none is added. -/
import Derived.Test.YtekehmgfedmflaaGreatDoorCards
import Derived.Test.YtekehmgfedmflaaGreatDoorX13
import Derived.Test.YtekehmgfedmflaaGreatDoorX11
import Derived.Test.YtekehmgfedmflaaGreatDoorX12
set_option linter.all false

namespace Go.Proofs.YtekehmgfedmflaaGreatDoor.A
open Go Go.ChangeShapes Go.WideShapes Go.ChangeAt Go.RowKit Go.Proofs.YtekehmgfedmflaaGreatDoor
def TrimOnce.laid : List (String × Nat × List UInt8) := [("skolem/api.ErrLimit", 1, [109, 111, 114, 101, 32, 116, 104, 97, 110, 32, 109, 97, 121, 32, 98, 101]), ("skolem/api.ErrBudget", 2, [116, 104, 101, 32, 98, 117, 100, 103, 101, 116, 32, 105, 115, 32, 117, 115, 101, 100, 32, 117, 112]), ("skolem/api.ErrRange", 0, [97, 32, 110, 117, 109, 98, 101, 114, 32, 111, 117, 116, 32, 111, 102, 32, 105, 116, 115, 32, 114, 97, 110, 103, 101])]
def TrimOnce.args : Args Tryz.prog ((List Int) × Int × Unit) := (Args.cons Tryz.cIs (Args.cons Tryz.cI Args.nil rfl (.inr (.inl ⟨_, Tryz.underlying3⟩))) rfl (.inl ⟨_, Tryz.underlying22⟩))

set_option maxRecDepth 100000 in
theorem TrimOnce_lifted (os : Os) (started : os.Started) (H : Type) (enc : TypeId × Value → H) :
    ReturnsInHanded {} Tryz.checked os 3 .any (fun w args => (Rows.trimOnceSpec.pre enc Tryz.prog Tryz.f3 [] false w args ∧ laidMetH Tryz.prog Rows.trimOnceRow.laid w) ∧ sizedMet enc Tryz.prog Tryz.f3 (OpenSpec.ofChange Rows.trimOnceSpec) false w args)
      (Rows.trimOnceSpec.post enc Tryz.prog Tryz.f3 false true false false) := by
  refine y5g_ (C := Tryz.checked) (X := fun w _ => laidMetH Tryz.prog Rows.trimOnceRow.laid w) 7 (fun _ _ _ hh h => h.of_heap hh) Tryz.own started (by kernel_rfl) Tryz.func3 (Nat.le_of_ble_eq_true (by kernel_rfl)) Tryz.rows
    (ChangeSpec.witness_shaped (enc := enc) (C := Tryz.checked) (os := os) (X := fun w _ => laidMetH Tryz.prog Rows.trimOnceRow.laid w) false (World.laidAll Tryz.prog os Rows.trimOnceRow.laid) #[.slice none 0 0, .int .i64 0] 8 (World.laidAll_os _ _ _)
      (World.shaped_of_ZipB (by kernel_rfl) (by kernel_rfl)) (by kernel_rfl) (by kernel_rfl) (by kernel_rfl)
      (by rw [MakeChecks.laidMetH_plain _ _ _ (by kernel_rfl)]; exact laidMet_laidAll _ (by kernel_rfl) (by kernel_rfl))) ?_
  intro W base args ds gs before hval0 hW hz hL hNG
  have hval : ∀ (j : Nat) t v, Tryz.f3.params[j]? = some t → args[j]? = some v → Value.okWide Tryz.prog W .any base t v := hval0
  rw [MakeChecks.laidMetH_plain _ _ _ (by kernel_rfl)] at hL
  obtain ⟨ps, hlv, _, hlr⟩ := hL
  have hsn := y6o_ Tryz.snt TrimOnce.laid ps hlv (fun x hx => by
    simp only [TrimOnce.laid, List.mem_cons, List.not_mem_nil, or_false] at hx
    rcases hx with rfl | rfl | rfl <;> exact ⟨by kernel_rfl, by kernel_rfl⟩) hlr
  have hgl : ∀ x ∈ TrimOnce.laid.map (·.2), ∃ a, SntAt W 270 x.1 x.2 a := fun x hx => by
    obtain ⟨y, hy, rfl⟩ := List.mem_map.1 hx
    exact hsn y hy
  have hW' := hW
  obtain ⟨p, q, hA0, hV, rfl, hfz, hnd⟩ := hW
  have hA : DataW.TrodAll enc Tryz.prog W 0 (fun _ => true) true Tryz.f3.params.toList args.toList ds p := hA0
  obtain ⟨rfl, rfl⟩ := trodVars_none hV
  rw [Tryz.params3] at hA hval hz
  have hfit : ∀ k ∈ DataW.weightsEach Tryz.prog [22, 3] ds, k ≤ reachBytes := by
    have h1 : (DataW.weightsEach Tryz.prog ([22, 3] ++ []) (ds ++ [])).all (· ≤ reachBytes) = true := hz
    simpa using h1
  clear hA0 hval0
  simp only [List.append_nil] at hW'
  have hA' := hA
  obtain ⟨v0, v1, d0, d1, p0, p1, rfl, rfl, rfl, -, -⟩ := trodAll_two hA
  have hts : TrimOnce.args.ts = [22, 3] := rfl
  refine (ydy_ Go.Proofs.YtekehmgfedmflaaGreatDoor.A.W.z110_ok TrimOnce.args 270 (TrimOnce.laid.map (·.2)) (fun a cs σ hn hg h => ?_) hA' (fun j t v h1 h2 => hval j t v (by rw [hts] at h1; simpa using h1) h2) hfit hNG hgl).mono fun e W' ⟨he, hw⟩ => ?_
  · obtain ⟨v0, vs0, rfl, h0, t0⟩ := h
    obtain ⟨v1, vs1, rfl, h1, t1⟩ := t0
    have t1 : vs1 = [] := t1
    subst t1
    have hg' : GlS [.limit, .budget, .range] σ := yjx_ hn _ _ (fun e he => by
      simp only [List.mem_cons, List.not_mem_nil, or_false] at he
      rcases he with rfl | rfl | rfl
      · exact ⟨0, by kernel_rfl, by kernel_rfl, by decide⟩
      · exact ⟨1, by kernel_rfl, by kernel_rfl, by decide⟩
      · exact ⟨2, by kernel_rfl, by kernel_rfl, by decide⟩) hg
    obtain ⟨x0, e0, hx0⟩ := yj6_ hn h0
    cases e0
    have lx0 := (yic_ h0).1
    obtain ⟨e1, r1⟩ := (h1 : [v1] = [.int .i64 a.2.1] ∧ -9223372036854775808 ≤ a.2.1 ∧ a.2.1 ≤ 9223372036854775807)
    cases e1
    obtain ⟨⟨b, τ⟩, e, hr⟩ := y9q_ (m := a.2.1) (hg'.sub (by decide)) hx0 (by omega)
    cases (show b = true from hr)
    exact ⟨τ, e⟩
  · subst he
    have hb := y5z_ Tryz.laidOut hw (ts := [22, 3]) (fun t ht => by
      simp only [List.mem_cons, List.not_mem_nil, or_false] at ht; rcases ht with rfl | rfl <;> exact ⟨by kernel_rfl, of_decide_eq_true (by kernel_rfl)⟩) hA' (fun x hx => by simpa using hW'.lt x hx)
    exact ⟨_, rfl, _, _, _, _, _, _, hW', (trodAll_mk1 (shut_bool Tryz.underlying4 true) : DataW.TrodAll enc Tryz.prog W' _ _ _ [4] [.bool true] [.lit (.bool true)] _), hb, hV, hw.frame _, fun h => by cases h⟩

set_option maxRecDepth 100000 in
theorem TrimOnce_holds : Rows.TrimOnceSaid :=
  OpenClaim.holds_of_wide 3 Tryz.f3 rfl rfl rfl rfl rfl rfl rfl ⟨rfl, rfl, rfl, rfl, rfl⟩ rfl rfl rfl rfl rfl (by kernel_rfl) Tryz.func3 (by kernel_rfl)
    (of_decide_eq_true (by kernel_rfl)) (by unfold Func.isWrapper; first | (rw [if_pos (by decide +kernel)]; kernel_rfl) | (rw [if_neg (by decide +kernel)]; exact ⟨rfl, rfl⟩))
    (fun os started H enc _ => TrimOnce_lifted os started H enc)

set_option maxRecDepth 100000 in
theorem TrimOnce_card : Rows.TrimOnceCardSaid :=
  Claim7.holds_tied_plain_at .later [] [.sentinel, .sentinel, .sentinel] true (true, "9e05881245c26757346e6036be4e28f4e18b4d75c99af3c8860c52ddb84f9133") true
    TrimOnce_holds (fun _ h => by cases h) (by kernel_rfl) (fun _ h => by cases h) trimOnce_row_tie rfl ⟨rfl, rfl⟩ (by kernel_rfl) rfl
    (fun f fn hf hfn => by
      obtain rfl : f = 3 := Option.some.inj ((show Tryz.prog.funcNamed "skolem/skolemlaw25.TrimOnce" = some 3 by kernel_rfl).symm.trans hf) |>.symm
      obtain rfl : fn = Tryz.f3 := (Option.some.inj (Tryz.func3.symm.trans hfn)).symm
      exact ⟨by kernel_rfl, fun j t ht => by
        rw [Tryz.params3] at ht
        have hm : t ∈ [22, 3] := by simpa using Array.mem_of_getElem? ht
        have hall : ([22, 3].all fun u => !Tryz.prog.wantsStandIn u) = true := by kernel_rfl
        exact (show Tryz.prog.wantsStandIn t = false by simpa using List.all_eq_true.1 hall t hm)⟩)
    (by kernel_rfl)
end Go.Proofs.YtekehmgfedmflaaGreatDoor.A
