/- Renamed clauses: the program's way, the reference's way. -/
import Derived.Test.YtgneblbblihaoaaDoorJ4
import Derived.Test.YtgneblbblihaoaaDoorJ6
import Derived.Test.YtgneblbblihaoaaDoorJ7
set_option linter.all false
namespace Go.Proofs.YtgneblbblihaoaaDoor.A
open Go

def place (ws : List Int) (v : Int) : Nat := ((ws.findIdx? (· == v)).map (· + 1)).getD 0
theorem place_push (ws : List Int) (w v : Int) : place (ws ++ [w]) v = if place ws v = 0 ∧ w = v then ws.length + 1 else place ws v := by
  unfold place
  rw [List.findIdx?_append]
  cases h : ws.findIdx? (· == v) with
  | some k => simp
  | none =>
    by_cases hw : w = v
    · subst hw; simp [List.findIdx?_cons]
    · simp [List.findIdx?_cons, hw]
theorem place_le (ws : List Int) (v : Int) : place ws v ≤ ws.length := by
  unfold place
  cases h : ws.findIdx? (· == v) with
  | some k =>
    obtain ⟨hk, _⟩ := List.findIdx?_eq_some_iff_getElem.1 h
    simp; omega
  | none => simp
theorem place_zero {ws : List Int} {v : Int} (h : ∀ w ∈ ws, w ≠ v) : place ws v = 0 := by
  unfold place
  have : ws.findIdx? (· == v) = none := by rw [List.findIdx?_eq_none_iff]; intro w hw; simpa using h w hw
  rw [this]; rfl
theorem place_append_zero {ws us : List Int} {v : Int} (h : place ws v = 0) : place (ws ++ us) v = if place us v = 0 then 0 else ws.length + place us v := by
  unfold place at h ⊢
  rw [List.findIdx?_append]
  cases h1 : ws.findIdx? (· == v) with
  | some k => rw [h1] at h; simp at h
  | none =>
    cases h2 : us.findIdx? (· == v) with
    | some k => simp; omega
    | none => simp
theorem place_append_pos {ws us : List Int} {v : Int} (h : place ws v ≠ 0) : place (ws ++ us) v = place ws v := by
  unfold place at h ⊢
  rw [List.findIdx?_append]
  cases h1 : ws.findIdx? (· == v) with
  | some k => simp
  | none => rw [h1] at h; simp at h
def ren (ws : List Int) (l : Int) : Option Int := if l = 0 ∨ place ws l.natAbs = 0 then none else some (if l < 0 then -(place ws l.natAbs : Int) else (place ws l.natAbs : Int))
def renC (ws : List Int) (c : List Int) : Option (List Int) := c.mapM (ren ws)
def matrix (ws : List Int) (cs : List (List Int)) : Option (List (List Int)) := cs.mapM (renC ws)

theorem mapM_take {α β : Type} {f : α → Option β} {xs : List α} {i : Nat} {a : α} {zs : List β} (h : (xs.take i).mapM f = some zs) (ha : xs[i]? = some a) :
    (∀ b, f a = some b → (xs.take (i + 1)).mapM f = some (zs ++ [b])) ∧ (f a = none → xs.mapM f = none) := by
  refine ⟨fun b hb => ?_, fun hn => ?_⟩
  · rw [List.take_add_one, ha, List.mapM_append, h]; simp [hb]
  · have : xs = xs.take i ++ a :: xs.drop (i + 1) := by
      obtain ⟨hi, e⟩ := List.getElem?_eq_some_iff.1 ha
      rw [← e]; simp
    rw [this, List.mapM_append, h]; simp [hn]
theorem mapM_length {α β : Type} {f : α → Option β} : ∀ {xs : List α} {zs : List β}, xs.mapM f = some zs → zs.length = xs.length
  | [], zs, h => by simp at h; subst h; rfl
  | x :: xs, zs, h => by
    rw [List.mapM_cons] at h
    simp only [Option.bind_eq_bind, Option.bind_eq_some_iff, Option.pure_def, Option.some.injEq] at h
    obtain ⟨b, _, bs, h2, rfl⟩ := h
    simp [mapM_length h2]

/-- Literals that have an opposite. -/
def Nears (c : List Int) : Prop := ∀ l ∈ c, -1152921504606846976 ≤ l ∧ l ≤ 9223372036854775807

theorem var_eq {σ : Heap} {l : Int} (h : -1152921504606846976 ≤ l ∧ l ≤ 9223372036854775807) : S.lits_Var l σ = some (l.natAbs : Int) := by
  unfold S.lits_Var
  have w : IntKind.i64.wrap (0 - l) = -l := by rw [wrapS] <;> omega
  rw [w]
  congr 1
  split <;> omega

theorem vI_one {σ : Heap} (z : Int) : Vw.int.rel σ z [.int .i64 z] := rfl

/-- The program's inner loop. -/
theorem matrix_b1 {σ0 : Heap} {l4 : Nat} {ps : List (Int × AVal)} {ws c : List Int} {v X : AVal} {p45 : AVal} {p46 p47 : Int} (hm : MapV σ0 l4 ps) (hl : ∀ v, (look ps v).getD (.int .i64 0) = .int .i64 (place ws v)) (hws : ws.length ≤ 100000) (hc : SlV .int σ0 c v) (hn : Nears c) (hlen : c.length ≤ 100000) {x : AVal} {τ0 : Heap} (L0 : Hle σ0 τ0) (A0 : Acc .int σ0.next τ0 [] x) :
    ∃ r τ, loopW (S.prefix_Matrix.b1 (.map l4) X p45 p46 p47 v c.length) (x, 0) τ0 = some (r, τ) ∧ Hle σ0 τ ∧
      ((renC ws c = none ∧ r = .inr (.nils, false)) ∨ ∃ zs y, renC ws c = some zs ∧ r = .inl y ∧ Acc .int σ0.next τ zs y) := by
  refine loopW_inv (f := S.prefix_Matrix.b1 (.map l4) X p45 p46 p47 v c.length) (x := (x, 0)) (σ := τ0) c.length (fun i y τ => y.2 = (i : Int) ∧ Hle σ0 τ ∧ ∃ zs, (c.take i).mapM (ren ws) = some zs ∧ Acc .int σ0.next τ zs y.1)
    (fun r τ => Hle σ0 τ ∧ ((renC ws c = none ∧ r = .inr (.nils, false)) ∨ ∃ zs y, renC ws c = some zs ∧ r = .inl y ∧ Acc .int σ0.next τ zs y)) ?_ ?_ ⟨rfl, L0, [], by simp, A0⟩
  · intro i y τ hi hI
    obtain ⟨h1, L, zs, hz, hA⟩ := hI
    obtain ⟨y, j⟩ := y
    simp only at h1; subst h1
    obtain ⟨a, ha⟩ : ∃ a, c[i]? = some a := ⟨_, List.getElem?_eq_getElem hi⟩
    obtain ⟨p, us, c2, c3, c1⟩ := hc.ix ha
    have hd : decide ((i : Int) < (c.length : Int)) = true := decide_eq_true (by omega)
    have w2 : IntKind.i64.wrap ((i : Int) + 1) = ((i + 1 : Nat) : Int) := by rw [wrapS] <;> omega
    have hna := hn a (List.mem_of_getElem? ha)
    have hple := place_le ws a.natAbs
    have hzl := mapM_length hz
    simp only [List.length_take] at hzl
    obtain ⟨q1, q2⟩ := mapM_take hz ha
    unfold S.prefix_Matrix.b1
    simp only [hd, cond_true, w2]
    rw [show ixA τ v 1 = ixA τ v Vw.int.sz from rfl, c1 L, ld_i (c2.mono L) (Vw.int.mono L c3), var_eq hna]
    simp only [Option.bind_some]
    rw [(hm.mono L).mgetZ, hl]
    have hk : ∀ {Rt : Type} (K : Int → Option Rt), asK (.I .i64) (.int .i64 (place ws a.natAbs)) K = K (place ws a.natAbs) := fun K => by simp [asK]
    rw [hk]
    by_cases h0 : a = 0 ∨ place ws a.natAbs = 0
    · have hr : ren ws a = none := by unfold ren; rw [if_pos h0]
      have hcnd : (cond ((place ws a.natAbs : Int) == 0) (some true) (some (a == 0))) = some true := by
        rcases h0 with h0 | h0
        · subst h0; cases h : ((place ws (0 : Int).natAbs : Int) == 0) <;> rfl
        · rw [h0]; rfl
      rw [hcnd]
      simp only [Option.bind_some, cond_true]
      exact .inr ⟨_, τ, rfl, L, .inl ⟨q2 hr, rfl⟩⟩
    · have hcnd : (cond ((place ws a.natAbs : Int) == 0) (some true) (some (a == 0))) = some false := by
        have h1 : ((place ws a.natAbs : Int) == 0) = false := by have := fun e => h0 (Or.inr e); simpa using this
        have h2 : (a == 0) = false := by have := fun e => h0 (Or.inl e); simpa using this
        rw [h1, h2]; rfl
      have hr : ren ws a = some (if a < 0 then -(place ws a.natAbs : Int) else (place ws a.natAbs : Int)) := by unfold ren; rw [if_neg h0]
      have hneg : (cond (decide (a < 0)) (some (IntKind.i64.wrap (0 - (place ws a.natAbs : Int)))) (some (place ws a.natAbs : Int))) = some (if a < 0 then -(place ws a.natAbs : Int) else (place ws a.natAbs : Int)) := by
        by_cases hlt : a < 0
        · rw [if_pos hlt, show decide (a < 0) = true from decide_eq_true hlt]
          simp only [cond_true]; congr 1; rw [wrapS] <;> omega
        · rw [if_neg hlt, show decide (a < 0) = false from decide_eq_false hlt]; rfl
      rw [hcnd]
      simp only [Option.bind_some, cond_false]
      rw [hneg]
      simp only [Option.bind_some, newK]
      obtain ⟨y', τ', a1, a2, a3, _⟩ := hA.push (bytes := 8) (cs := [.int .i64 (if a < 0 then -(place ws a.natAbs : Int) else (place ws a.natAbs : Int))]) L (vI_one _) (by omega) (by omega)
      have a1 : ∀ {Rt : Type} (K : AVal → Heap → Option Rt), appS (τ.new (.cells .rw 1 [.int .i64 (if a < 0 then -(place ws a.natAbs : Int) else (place ws a.natAbs : Int))])) 1 8 y (.sl τ.next 0 1 none) K = K y' τ' := a1
      rw [a1]
      simp only [Option.bind_some]
      exact .inl ⟨_, τ', rfl, rfl, a2, _, q1 _ hr, a3⟩
  · intro y τ hI
    obtain ⟨h1, L, zs, hz, hA⟩ := hI
    obtain ⟨y, j⟩ := y
    simp only at h1; subst h1
    rw [List.take_length] at hz
    refine ⟨.inl y, τ, ?_, L, .inr ⟨zs, y, hz, rfl, hA⟩⟩
    unfold S.prefix_Matrix.b1
    have hd : decide ((c.length : Int) < (c.length : Int)) = false := by simp
    simp only [hd, cond_false]

abbrev vIs : Vw (List Int) := Vw.sl .int
theorem vIs_one {σ : Heap} {zs : List Int} {y : AVal} (h : SlV .int σ zs y) : vIs.rel σ zs [y] := ⟨y, rfl, h⟩

theorem matrix_b2 {σ0 : Heap} {l4 : Nat} {ps : List (Int × AVal)} {ws : List Int} {cs : List (List Int)} {v : AVal} (hm : MapV σ0 l4 ps) (hl : ∀ v, (look ps v).getD (.int .i64 0) = .int .i64 (place ws v)) (hws : ws.length ≤ 100000) (hc : SlV vIs σ0 cs v) (hn : ∀ c ∈ cs, Nears c ∧ c.length ≤ 100000) (hlen : cs.length ≤ 100000) {x : AVal} {τ0 : Heap} (L0 : Hle σ0 τ0) (A0 : Acc vIs σ0.next τ0 [] x) :
    ∃ r τ, loopW (S.prefix_Matrix.b2 (.map l4) v cs.length) (x, 0) τ0 = some (r, τ) ∧ Hle σ0 τ ∧
      ((matrix ws cs = none ∧ r = .inr (.nils, false)) ∨ ∃ zs y, matrix ws cs = some zs ∧ r = .inl y ∧ Acc vIs σ0.next τ zs y) := by
  refine loopW_inv (f := S.prefix_Matrix.b2 (.map l4) v cs.length) (x := (x, 0)) (σ := τ0) cs.length (fun i y τ => y.2 = (i : Int) ∧ Hle σ0 τ ∧ ∃ zs, (cs.take i).mapM (renC ws) = some zs ∧ Acc vIs σ0.next τ zs y.1)
    (fun r τ => Hle σ0 τ ∧ ((matrix ws cs = none ∧ r = .inr (.nils, false)) ∨ ∃ zs y, matrix ws cs = some zs ∧ r = .inl y ∧ Acc vIs σ0.next τ zs y)) ?_ ?_ ⟨rfl, L0, [], by simp, A0⟩
  · intro i y τ hi hI
    obtain ⟨h1, L, zs, hz, hA⟩ := hI
    obtain ⟨y, j⟩ := y
    simp only at h1; subst h1
    obtain ⟨a, ha⟩ : ∃ a, cs[i]? = some a := ⟨_, List.getElem?_eq_getElem hi⟩
    obtain ⟨p, us, c2, c3, c1⟩ := hc.ix ha
    obtain ⟨w, rfl, hw⟩ := c3
    have hd : decide ((i : Int) < (cs.length : Int)) = true := decide_eq_true (by omega)
    have w2 : IntKind.i64.wrap ((i : Int) + 1) = ((i + 1 : Nat) : Int) := by rw [wrapS] <;> omega
    obtain ⟨hna, hnl⟩ := hn a (List.mem_of_getElem? ha)
    have hzl := mapM_length hz
    simp only [List.length_take] at hzl
    obtain ⟨q1, q2⟩ := mapM_take hz ha
    unfold S.prefix_Matrix.b2
    simp only [hd, cond_true, w2]
    rw [show ixA τ v 1 = ixA τ v vIs.sz from rfl, c1 L, (c2.mono L).ld]
    simp only [asK]
    rw [hw.len]
    obtain ⟨x1, τ1, e1, L1, A1⟩ := mk0 (v := Vw.int) (σ := τ) (n := a.length) (bytes := 8) (z := [.int .i64 0]) (by omega) (by omega)
    have e1 : ∀ {Rt : Type} (K : AVal → Heap → Option Rt), mkS τ 1 8 [.int .i64 0] 0 (a.length : Int) K = K x1 τ1 := e1
    rw [e1, hw.len]
    obtain ⟨r, τ2, e2, L2, hr⟩ := matrix_b1 (X := y) (p45 := v) (p46 := cs.length) (p47 := i) (hm.mono L) hl hws (hw.mono L) hna hnl L1 A1
    rw [e2]
    simp only [Option.bind_some]
    rcases hr with ⟨hr1, rfl⟩ | ⟨zc, yc, hr1, rfl, hAc⟩
    · exact .inr ⟨_, τ2, rfl, L.trans L2, .inl ⟨q2 hr1, rfl⟩⟩
    · simp only []
      rw [hAc.sl.scal]
      simp only [newK]
      have hA1 := hA.mono L2
      obtain ⟨y', τ', a1, a2, a3, _⟩ := hA1.push (bytes := 24) (cs := [yc]) (L.trans L2) (vIs_one (hAc.sl_out Vw.int_flat hA (Nat.le_refl _))) (by omega) (by omega)
      have a1 : ∀ {Rt : Type} (K : AVal → Heap → Option Rt), appS (τ2.new (.cells .rw 1 [yc])) 1 24 y (.sl τ2.next 0 1 none) K = K y' τ' := a1
      rw [a1]
      exact .inl ⟨_, τ', rfl, rfl, a2, _, q1 _ hr1, a3⟩
  · intro y τ hI
    obtain ⟨h1, L, zs, hz, hA⟩ := hI
    obtain ⟨y, j⟩ := y
    simp only at h1; subst h1
    rw [List.take_length] at hz
    refine ⟨.inl y, τ, ?_, L, .inr ⟨zs, y, hz, rfl, hA⟩⟩
    unfold S.prefix_Matrix.b2
    have hd : decide ((cs.length : Int) < (cs.length : Int)) = false := by simp
    simp only [hd, cond_false]
end Go.Proofs.YtgneblbblihaoaaDoor.A
