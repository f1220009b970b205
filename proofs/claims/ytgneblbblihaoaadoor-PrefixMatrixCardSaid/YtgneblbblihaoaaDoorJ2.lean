/- Merged blocks. -/
import Derived.Test.YtgneblbblihaoaaDoorJ1
set_option linter.all false
namespace Go.Proofs.YtgneblbblihaoaaDoor.A
open Go

def mergeB (out : List (Bool × List Int)) (b : Bool × List Int) : List (Bool × List Int) :=
  if b.2 = [] then out else match out.getLast? with
    | some l => if l.1 = b.1 then out.set (out.length - 1) (l.1, l.2 ++ b.2) else out ++ [b]
    | none => out ++ [b]
def merge (bs : List (Bool × List Int)) : List (Bool × List Int) := bs.foldl mergeB []

abbrev vB : Vw (Bool × List Int) := Vw.pair .bool (Vw.sl .int)
theorem vB_rel {σ : Heap} {b : Bool × List Int} {us : List AVal} (h : vB.rel σ b us) : ∃ x, us = [.bool b.1, x] ∧ SlV .int σ b.2 x := by
  obtain ⟨u1, u2, rfl, h1, x, rfl, h2⟩ := h
  have h1 : u1 = [.bool b.1] := h1
  subst h1
  exact ⟨x, rfl, h2⟩
theorem vB_mk {σ : Heap} {b : Bool × List Int} {x : AVal} (h : SlV .int σ b.2 x) : vB.rel σ b [.bool b.1, x] := ⟨[.bool b.1], [x], rfl, rfl, x, rfl, h⟩

theorem mergeB_len (out : List (Bool × List Int)) (b) : (mergeB out b).length ≤ out.length + 1 := by
  unfold mergeB; split
  · omega
  · split
    · split
      · simp
      · simp
    · simp
def total (bs : List (Bool × List Int)) : Nat := (bs.map fun b => b.2.length).sum

/-- A step of Merge. -/
theorem merge_step {σ0 σ : Heap} {bs out0 : List (Bool × List Int)} {b : Bool × List Int} {i N : Nat} {x y : AVal} (hx : SlV vB σ0 bs x) (hi : bs[i]? = some b) (hb : bs.length ≤ 10000) (L : Hle σ0 σ) (hA : Acc vB σ0.next σ out0 y)
    (ho : out0.length ≤ 10000) (hs : ∀ a ∈ out0, a.2.length ≤ N) (hbl : b.2.length ≤ 500000) (hN : N ≤ 500000) :
    ∃ y' τ, S.prefix_Merge.b0 x (bs.length : Int) (y, (i : Int)) σ = some (.inl (y', ((i + 1 : Nat) : Int)), τ) ∧ Hle σ0 τ ∧ Acc vB σ0.next τ (mergeB out0 b) y' := by
  have hlt := (List.getElem?_eq_some_iff.1 hi).1
  obtain ⟨p, us, hp, hr, e1⟩ := hx.ix hi
  obtain ⟨v, rfl, hv⟩ := vB_rel hr
  unfold S.prefix_Merge.b0
  have hd : decide ((i : Int) < (bs.length : Int)) = true := decide_eq_true (by omega)
  have w2 : IntKind.i64.wrap ((i : Int) + 1) = ((i + 1 : Nat) : Int) := by rw [wrapS] <;> omega
  simp only [hd, cond_true, w2]
  rw [show ixA σ x 2 = ixA σ x vB.sz from rfl, e1 L, (hp.mono L).ldG (n := 2) rfl]
  simp only [newK, aggK, List.length_cons, List.length_nil, if_true]
  -- the element's copy
  have hst : ∀ {Rt : Type} (K : Heap → Option Rt), stC (σ.new (.cells .rw 2 [.bool false, .nils])) (.ptr σ.next 0) [.bool b.1, v] K = K ((σ.new (.cells .rw 2 [.bool false, .nils])).set σ.next (.cells .rw 2 [.bool b.1, v])) := fun K => by
    simp only [stC, hnew_get, if_true]; rfl
  rw [hst]
  generalize hτ : (σ.new (.cells .rw 2 [.bool false, .nils])).set σ.next (.cells .rw 2 [.bool b.1, v]) = σ1
  have hg1 : σ1.get σ.next = some (.cells .rw 2 [.bool b.1, v]) := by rw [← hτ, hset_get, if_pos rfl]
  have hn1 : σ1.next = σ.next + 1 := by rw [← hτ]; rfl
  have L1 : Hle σ σ1 := by rw [← hτ]; exact ((Hle.refl σ).new _).set (Nat.le_refl _) _
  have hl8 : At σ1 (.ptr σ.next 0) [.bool b.1, v] := At.of_get (by omega) hg1
  have hA1 := hA.mono L1
  have L01 := L.trans L1
  have hv1 : SlV .int (out σ1 y) b.2 v := hv.mono (hA1.out_le L01)
  have hv1' : SlV .int σ1 b.2 v := hv.mono L01
  rw [hA1.len, hl8.ld0 (k := 1) rfl]
  simp only [asK]
  rw [hv.len]
  by_cases hb0 : b.2 = []
  · have : ((b.2.length : Int) == 0) = true := by simp [hb0]
    simp only [this, cond_true, Option.bind_some]
    refine ⟨y, σ1, rfl, L01, ?_⟩
    unfold mergeB; rw [if_pos hb0]; exact hA1
  · have : ((b.2.length : Int) == 0) = false := by
      have : b.2.length ≠ 0 := fun e => hb0 (List.eq_nil_of_length_eq_zero e)
      simpa using this
    simp only [this, cond_false]
    -- a new block
    have newB : ∃ y' τ, (ld σ1 (.ptr σ.next 0) (.B) fun b30 => ld σ1 (.ptr σ.next 1) (.V) fun v31 =>
          (S.slices_Clone_int_int v31 σ1).bind fun r32 => ld r32.2 (.ptr σ.next 0) (.B) fun b33 => chk (((.bool b33) : AVal) = (.bool b30)) (scal r32.1 (newK r32.2 2 [(.bool b30), r32.1] fun l34 σ35 =>
          appS σ35 2 32 y (.sl l34 0 1 none) fun v36 σ37 => some (v36, σ37)))) = some (y', τ) ∧ Hle σ0 τ ∧ Acc vB σ0.next τ (out0 ++ [b]) y' := by
      rw [hl8.ld0 (k := 0) rfl]
      simp only [asK]
      rw [hl8.ld0 (k := 1) rfl]
      simp only [asK]
      obtain ⟨z, τ, c1, c2, c3⟩ := clone_eq hv1' (by omega)
      rw [c1]
      simp only [Option.bind_some]
      rw [(hl8.mono c2).ld0 (k := 0) rfl]
      simp only [asK, chk, if_true]
      rw [c3.sl.scal]
      simp only [newK]
      have L2 := (Hle.refl τ).new (.cells .rw 2 [.bool b.1, z])
      have hA2 := (hA1.mono c2).mono L2
      have L02 := (L01.trans c2).trans L2
      have hyl : ∀ l off len c, y = .sl l off len c → l < σ1.next := fun l off len c e => by
        rcases hA1 with ⟨rfl, _⟩ | ⟨l', cs, rfl, _, h3, _⟩
        · cases e
        · cases e; exact h3
      have hz : SlV .int (out (τ.new (.cells .rw 2 [.bool b.1, z])) y) b.2 z := by
        have := (c3.mono L2).sl_out Vw.int_flat hA1 (Nat.le_refl _)
        exact this
      have hsrc : SlV vB (out (τ.new (.cells .rw 2 [.bool b.1, z])) y) [b] (.sl τ.next 0 1 none) := by
        refine .inr ⟨τ.next, 0, none, .rw, [.bool b.1, z], rfl, by rw [out_next]; exact Nat.lt_succ_self _, ?_, by simp [vB, Vw.pair, Vw.bool, Vw.sl], fun j a ha => ?_⟩
        · have hne : ∀ l off len c, y = .sl l off len c → τ.next ≠ l := fun l off len c e => by have := hyl _ _ _ _ e; have := c2.next; omega
          cases hy : y with
          | sl l off len c =>
            show ((τ.new _).kill l).get _ = _
            rw [hkill_get, if_neg (hne _ _ _ _ hy), hnew_get, if_pos rfl]; rfl
          | _ => simp only [out, hnew_get, if_true]; rfl
        · cases j with
          | zero => simp at ha; subst ha; exact vB_mk hz
          | succ j => simp at ha
      obtain ⟨y', τ', a1, a2, a3, _⟩ := hA2.app (bytes := 32) L02 hsrc (by simp; omega) (by simp; omega)
      have a1 : ∀ {Rt : Type} (K : AVal → Heap → Option Rt), appS (τ.new (.cells .rw 2 [.bool b.1, z])) 2 32 y (.sl τ.next 0 1 none) K = K y' τ' := a1
      exact ⟨y', τ', by rw [a1], a2, a3⟩
    by_cases hlast : out0 = []
    · subst hlast
      have w3 : IntKind.i64.wrap ((([] : List (Bool × List Int)).length : Int) - 1) = -1 := by decide
      have hc : decide ((-1 : Int) ≥ 0) = false := by decide
      simp only [w3, hc, cond_false, Option.bind_some]
      obtain ⟨y', τ, e, L', hA'⟩ := newB
      simp only [newK] at e
      rw [e]
      refine ⟨y', τ, rfl, L', ?_⟩
      unfold mergeB; rw [if_neg hb0]; exact hA'
    · have hpos : 0 < out0.length := List.length_pos_iff.2 hlast
      have w3 : IntKind.i64.wrap ((out0.length : Int) - 1) = ((out0.length - 1 : Nat) : Int) := by rw [wrapS] <;> omega
      have hc : decide (((out0.length - 1 : Nat) : Int) ≥ 0) = true := decide_eq_true (by omega)
      obtain ⟨a, ha⟩ : ∃ a, out0[out0.length - 1]? = some a := ⟨_, List.getElem?_eq_getElem (by omega)⟩
      have hal : out0.getLast? = some a := by rw [List.getLast?_eq_getElem?]; exact ha
      obtain ⟨l, o, as1, i1, i2, i3, i4⟩ := hA1.at ha
      obtain ⟨av, rfl, hav⟩ := vB_rel i3
      have i1 : ∀ {Rt : Type} (K : AVal → Option Rt), ixA σ1 y 2 ((out0.length - 1 : Nat) : Int) K = K (.ptr l o) := i1
      simp only [w3, hc, cond_true]
      rw [i1]
      simp only [fld, Nat.add_zero]
      rw [i2.ld]
      simp only [asK]
      rw [hl8.ld0 (k := 0) rfl]
      simp only [asK, Option.bind_some]
      by_cases hk : a.1 = b.1
      · have hkb : (a.1 == b.1) = true := by simp [hk]
        simp only [hkb, cond_true]
        rw [i1]
        simp only [fld]
        have i2' : At σ1 (.ptr l (o + 1)) [av] := i2.drop 1 (by simp)
        rw [i2'.ld]
        simp only [asK]
        rw [hl8.ld0 (k := 1) rfl]
        simp only [asK]
        have hav' : SlV .int σ1 a.2 av := hav.mono (Hle.out _ _)
        rw [hav'.scal, hv.scal]
        have L2 := (Hle.refl σ1).new (.cells .rw 1 [av, v])
        have hsrc : SlV (Vw.sl .int) (σ1.new (.cells .rw 1 [av, v])) [a.2, b.2] (.sl σ1.next 0 2 none) := by
          refine .inr ⟨σ1.next, 0, none, .rw, [av, v], rfl, Nat.lt_succ_self _, by rw [hnew_get, if_pos rfl]; rfl, by simp [Vw.sl], fun j z hz => ?_⟩
          match j with
          | 0 => simp at hz; subst hz; exact ⟨av, rfl, hav'.mono L2⟩
          | 1 => simp at hz; subst hz; exact ⟨v, rfl, hv1'.mono L2⟩
          | j + 2 => simp at hz
        have hal2 := hs a (List.mem_of_getElem? ha)
        obtain ⟨z, τ, c1, c2, c3⟩ := concat_eq hsrc (by simp; omega) (by simp)
        rw [c1]
        simp only [Option.bind_some]
        have hA2 := (hA1.mono L2).mono c2
        obtain ⟨l', o', as2, j1, j2, j3, j4⟩ := hA2.at ha
        obtain ⟨av', rfl, hav2⟩ := vB_rel j3
        have j1 : ∀ {Rt : Type} (K : AVal → Option Rt), ixA τ y 2 ((out0.length - 1 : Nat) : Int) K = K (.ptr l' o') := j1
        rw [j1]
        simp only [fld]
        rw [c3.sl.scal]
        have hz : SlV .int (out τ y) (a.2 ++ b.2) z := by
          have := c3.sl_out Vw.int_flat hA1 (by rw [hnew_next]; omega)
          simpa using this
        obtain ⟨τ', k1, k2, k3, _⟩ := j4 1 [z] (a.1, a.2 ++ b.2) (by simp [vB, Vw.pair, Vw.bool, Vw.sl]) (by
          show vB.rel _ _ [.bool a.1, z]
          exact vB_mk hz)
        rw [k1]
        refine ⟨y, τ', rfl, k3 σ0 (Nat.le_refl _) ((L01.trans L2).trans c2), ?_⟩
        unfold mergeB
        rw [if_neg hb0, hal]
        simp only [if_pos hk]
        exact k2
      · have hkb : (a.1 == b.1) = false := by simpa using hk
        simp only [hkb, cond_false]
        obtain ⟨y', τ, e, L', hA'⟩ := newB
        simp only [newK] at e
        rw [e]
        refine ⟨y', τ, rfl, L', ?_⟩
        unfold mergeB; rw [if_neg hb0, hal]; simp only [if_neg hk]; exact hA'
end Go.Proofs.YtgneblbblihaoaaDoor.A
