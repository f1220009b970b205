/- PrefixMerges: for every input the call returns true, and each argument reads afterwards as it read before. Conditions: those that the given statement PrefixMergesCardSaid itself bears; none is added. -/
import Derived.Test.YtgneblbblihaoaaDoorG7
import Derived.Test.YtgneblbblihaoaaDoorJ5
import Derived.Test.YtgneblbblihaoaaDoorCards
set_option linter.all false
namespace Go.Proofs.YtgneblbblihaoaaDoor.A
open Go Go.ChangeShapes Go.WideShapes Go.ChangeAt Go.RowKit Go.Proofs.YtgneblbblihaoaaDoor

def PrefixMerges.laid : List (String × Nat × List UInt8) := [("skolem/api.ErrLimit", 3, [109, 111, 114, 101, 32, 116, 104, 97, 110, 32, 109, 97, 121, 32, 98, 101]), ("skolem/api.ErrRange", 2, [97, 32, 110, 117, 109, 98, 101, 114, 32, 111, 117, 116, 32, 111, 102, 32, 105, 116, 115, 32, 114, 97, 110, 103, 101]), ("skolem/api.ErrBlocks", 0, [109, 111, 114, 101, 32, 116, 104, 97, 110, 32, 116, 119, 111, 32, 98, 108, 111, 99, 107, 115])]
def PrefixMerges.args : Args Tryd.prog (List (Bool × List Int) × Unit) := Args.cons Tryd.cBlocks Args.nil rfl (.inl ⟨_, Tryd.underlying22⟩)

set_option maxRecDepth 100000 in
theorem PrefixMerges_lifted (os : Os) (started : os.Started) (H : Type) (enc : TypeId × Value → H) :
    ReturnsInHanded {} Tryd.checked os 4 .any (fun w args => (Rows.prefixMergesSpec.pre enc Tryd.prog Tryd.f4 [] false w args ∧ laidMetH Tryd.prog Rows.prefixMergesRow.laid w) ∧ sizedMet enc Tryd.prog Tryd.f4 (OpenSpec.ofChange Rows.prefixMergesSpec) false w args)
      (Rows.prefixMergesSpec.post enc Tryd.prog Tryd.f4 false true false false) := by
  refine returnsInHanded_laid (C := Tryd.checked) (X := fun w _ => laidMetH Tryd.prog Rows.prefixMergesRow.laid w) 7 (fun _ _ _ hh h => h.of_heap hh) Tryd.own started (by kernel_rfl) Tryd.func4 (Nat.le_of_ble_eq_true (by kernel_rfl)) Tryd.rows
    (ChangeSpec.witness_shaped (enc := enc) (C := Tryd.checked) (os := os) (X := fun w _ => laidMetH Tryd.prog Rows.prefixMergesRow.laid w) false (World.laidAll Tryd.prog os Rows.prefixMergesRow.laid) #[.slice none 0 0] 8 (World.laidAll_os _ _ _)
      (World.shaped_of_ZipB (by kernel_rfl) (by kernel_rfl)) (by kernel_rfl) (by kernel_rfl) (by kernel_rfl)
      (by rw [MakeChecks.laidMetH_plain _ _ _ (by kernel_rfl)]; exact laidMet_laidAll _ (by kernel_rfl) (by kernel_rfl))) ?_
  intro W base args ds gs before hval0 hW hL hNG
  have hval : ∀ (j : Nat) t v, Tryd.f4.params[j]? = some t → args[j]? = some v → Value.okWide Tryd.prog W .any base t v := hval0
  rw [MakeChecks.laidMetH_plain _ _ _ (by kernel_rfl)] at hL
  obtain ⟨ps, hlv, _, hlr⟩ := hL
  have hsn := snts_of_laid Tryd.snt PrefixMerges.laid ps hlv (fun x hx => by
    simp only [PrefixMerges.laid, List.mem_cons, List.not_mem_nil, or_false] at hx
    rcases hx with rfl | rfl | rfl <;> exact ⟨by kernel_rfl, by kernel_rfl⟩) hlr
  have hgl : ∀ x ∈ PrefixMerges.laid.map (·.2), ∃ a, SntAt W 224 x.1 x.2 a := fun x hx => by
    obtain ⟨y, hy, rfl⟩ := List.mem_map.1 hx
    exact hsn y hy
  have hW' := hW
  obtain ⟨p, q, hA0, hV, rfl, hfz, hnd⟩ := hW
  have hA : DataW.TrodAll enc Tryd.prog W 0 (fun _ => true) true Tryd.f4.params.toList args.toList ds p := hA0
  obtain ⟨rfl, rfl⟩ := trodVars_none hV
  rw [Tryd.params4] at hA hval
  clear hA0 hval0
  simp only [List.append_nil] at hW'
  have hA' := hA
  obtain ⟨v0, d0, rfl, rfl, -⟩ := trodAll_one hA
  have hts : PrefixMerges.args.ts = [22] := rfl
  refine (law_callsG Go.Proofs.YtgneblbblihaoaaDoor.A.W.skolemlaw6_PrefixMerges_ok PrefixMerges.args 224 (PrefixMerges.laid.map (·.2)) (fun a cs σ hn hg h => ?_) hA' (fun j t v h1 h2 => hval j t v (by rw [hts] at h1; simpa using h1) h2) hNG hgl).mono fun e W' ⟨he, hw⟩ => ?_
  · obtain ⟨v, vs, rfl, h1, h2⟩ := h
    have h2 : vs = [] := h2
    subst h2
    obtain ⟨x, e, hx⟩ := blocks_of hn h1
    cases e
    exact merges_plain hx
  · subst he
    have hb := trodAll_below Tryd.laidOut hw (ts := [22]) (fun t ht => by
      simp only [List.mem_cons, List.not_mem_nil, or_false] at ht; rcases ht with rfl <;> exact ⟨by kernel_rfl, of_decide_eq_true (by kernel_rfl)⟩) hA' (fun x hx => by simpa using hW'.lt x hx)
    exact ⟨_, rfl, _, _, _, _, _, _, hW', (trodAll_mk1 (shut_bool Tryd.underlying4 true) : DataW.TrodAll enc Tryd.prog W' _ _ _ [4] [.bool true] [.lit (.bool true)] _), hb, hV, hw.frame _, fun h => by cases h⟩

set_option maxRecDepth 100000 in
theorem PrefixMerges_holds : Rows.PrefixMergesSaid :=
  OpenClaim.holds_of_wide 4 Tryd.f4 rfl rfl rfl rfl rfl rfl rfl ⟨rfl, rfl, rfl, rfl, rfl⟩ rfl rfl rfl rfl rfl (by kernel_rfl) Tryd.func4 (by kernel_rfl)
    (of_decide_eq_true (by kernel_rfl)) (by unfold Func.isWrapper; first | (rw [if_pos (by decide +kernel)]; kernel_rfl) | (rw [if_neg (by decide +kernel)]; exact ⟨rfl, rfl⟩))
    (fun os started H enc _ => PrefixMerges_lifted os started H enc)

set_option maxRecDepth 100000 in
theorem PrefixMerges_card : Rows.PrefixMergesCardSaid :=
  Claim7.holds_tied_plain_at .later [] [.sentinel, .sentinel, .sentinel] true (true, "cc832d4475c1df2f249c994398ea3a8dcd04cfe5fab5540c068fe3f33fccaed6") true
    PrefixMerges_holds (fun _ h => by cases h) (by kernel_rfl) (fun _ h => by cases h) prefixMerges_row_tie rfl ⟨rfl, rfl⟩ (by kernel_rfl) rfl
    (fun f fn hf hfn => by
      obtain rfl : f = 4 := Option.some.inj ((show Tryd.prog.funcNamed "skolem/skolemlaw6.PrefixMerges" = some 4 by kernel_rfl).symm.trans hf) |>.symm
      obtain rfl : fn = Tryd.f4 := (Option.some.inj (Tryd.func4.symm.trans hfn)).symm
      exact ⟨by kernel_rfl, fun j t ht => by
        rw [Tryd.params4] at ht
        have hm : t ∈ [22] := by simpa using Array.mem_of_getElem? ht
        have hall : ([22].all fun u => !Tryd.prog.wantsStandIn u) = true := by kernel_rfl
        exact (show Tryd.prog.wantsStandIn t = false by simpa using List.all_eq_true.1 hall t hm)⟩)
    (by kernel_rfl)
end Go.Proofs.YtgneblbblihaoaaDoor.A
