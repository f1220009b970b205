/- Maps by numbers, as lists of pairs. -/
import Derived.Test.YtgneblbblihaoaaDoorJ0
set_option linter.all false
namespace Go.Proofs.YtgneblbblihaoaaDoor.A
open Go

def ents (ps : List (Int × AVal)) : List (AVal × AVal) := ps.map fun p => (.int .i64 p.1, p.2)
def look : List (Int × AVal) → Int → Option AVal
  | [], _ => none
  | p :: ps, n => if n = p.1 then some p.2 else look ps n
def keysOf (ps : List (Int × AVal)) : List Int := ps.map (·.1)
/-- A map. -/
structure MapV (σ : Heap) (l : Nat) (ps : List (Int × AVal)) : Prop where
  lt : l < σ.next
  get : σ.get l = some (.map (ents ps))
  nodup : (keysOf ps).Nodup

theorem MapV.mono {σ τ : Heap} {l : Nat} {ps : List (Int × AVal)} (h : MapV σ l ps) (L : Hle σ τ) : MapV τ l ps := ⟨Nat.lt_of_lt_of_le h.lt L.next, L.get _ _ h.lt h.get, h.nodup⟩
theorem MapV.new (σ : Heap) : MapV (σ.new (.map [])) σ.next [] := ⟨Nat.lt_succ_self _, by rw [hnew_get, if_pos rfl]; rfl, by simp [keysOf]⟩

theorem look_none {ps : List (Int × AVal)} {n : Int} : look ps n = none ↔ n ∉ keysOf ps := by
  induction ps with
  | nil => simp [look, keysOf]
  | cons p ps ih =>
    simp only [look, keysOf, List.map_cons, List.mem_cons]
    by_cases h : n = p.1
    · simp [h]
    · simp only [h, if_false, false_or]; exact ih
theorem mfind_ents (n : Int) : ∀ (ps : List (Int × AVal)) (i : Nat), (look ps n = none ∧ mfind .i64 n (ents ps) i = some none) ∨ ∃ j x, look ps n = some x ∧ mfind .i64 n (ents ps) i = some (some (i + j)) ∧ ps[j]? = some (n, x)
  | [], i => .inl ⟨rfl, rfl⟩
  | p :: ps, i => by
    by_cases h : n = p.1
    · exact .inr ⟨0, p.2, by simp [look, h], by simp [ents, mfind, h], by rw [h]; rfl⟩
    · rcases mfind_ents n ps (i + 1) with ⟨h1, h2⟩ | ⟨j, x, h1, h2, h3⟩
      · exact .inl ⟨by simp [look, h, h1], by simp only [ents, List.map_cons, mfind, if_true, if_neg h]; exact h2⟩
      · exact .inr ⟨j + 1, x, by simp [look, h, h1], by simp only [ents, List.map_cons, mfind, if_true, if_neg h]; rw [show i + (j + 1) = i + 1 + j by omega]; exact h2, by simpa using h3⟩

section
variable {σ : Heap} {l : Nat} {ps : List (Int × AVal)} {n : Int} {x : AVal}
theorem MapV.mget (h : MapV σ l ps) {Rt : Type} (K : Option AVal → Option Rt) : mgetK σ (.map l) .i64 n K = K (look ps n) := by
  simp only [mgetK, h.get]
  rcases mfind_ents n ps 0 with ⟨h1, h2⟩ | ⟨j, x, h1, h2, h3⟩
  · rw [h2, h1]
  · rw [h2, h1]
    have : (ents ps)[0 + j]? = some (.int .i64 n, x) := by rw [Nat.zero_add]; simp [ents, h3]
    simp only [this]
theorem MapV.mgetZ (h : MapV σ l ps) (z : AVal) {Rt : Type} (K : AVal → Bool → Option Rt) : mgetZ σ (.map l) .i64 n z K = K ((look ps n).getD z) (look ps n).isSome := by
  unfold A.mgetZ
  rw [h.mget]
  cases look ps n <;> rfl
theorem look_set : ∀ (ps : List (Int × AVal)) (j : Nat) (n : Int) (x y : AVal), ps[j]? = some (n, y) → (keysOf ps).Nodup → (keysOf (ps.set j (n, x))) = keysOf ps ∧ ∀ k, look (ps.set j (n, x)) k = if k = n then some x else look ps k
  | [], j, n, x, y, h, _ => by simp at h
  | p :: ps, 0, n, x, y, h, hnd => by
    simp at h; subst h
    refine ⟨rfl, fun k => ?_⟩
    simp only [List.set_cons_zero, look]
    split <;> rfl
  | p :: ps, j + 1, n, x, y, h, hnd => by
    simp only [keysOf, List.map_cons, List.nodup_cons] at hnd
    have h' : ps[j]? = some (n, y) := by simpa using h
    obtain ⟨h1, h2⟩ := look_set ps j n x y h' hnd.2
    refine ⟨by simp only [keysOf, List.set_cons_succ, List.map_cons] at h1 ⊢; rw [h1], fun k => ?_⟩
    simp only [List.set_cons_succ, look, h2]
    by_cases hk : k = p.1
    · have : k ≠ n := fun e => hnd.1 (by rw [← hk, e]; exact List.mem_map.2 ⟨(n, y), List.mem_of_getElem? h', rfl⟩)
      simp [hk]; rw [hk] at this; simp [this]
    · simp [hk]
theorem look_append : ∀ (ps : List (Int × AVal)) (n : Int) (x : AVal), look ps n = none → ∀ k, look (ps ++ [(n, x)]) k = if k = n then some x else look ps k
  | [], n, x, _, k => by simp [look]
  | p :: ps, n, x, h, k => by
    simp only [look] at h
    split at h
    · cases h
    · rename_i hn
      simp only [List.cons_append, look, look_append ps n x h]
      by_cases hk : k = p.1
      · have : k ≠ n := fun e => hn (by rw [← e, hk])
        simp [hk]; rw [hk] at this; simp [this]
      · simp [hk]
theorem look_erase : ∀ (ps : List (Int × AVal)) (j : Nat) (n : Int) (y : AVal), ps[j]? = some (n, y) → (keysOf ps).Nodup → (keysOf (ps.eraseIdx j)).Nodup ∧ ∀ k, look (ps.eraseIdx j) k = if k = n then none else look ps k
  | [], j, n, y, h, _ => by simp at h
  | p :: ps, 0, n, y, h, hnd => by
    simp at h; subst h
    simp only [keysOf, List.map_cons, List.nodup_cons] at hnd
    refine ⟨hnd.2, fun k => ?_⟩
    simp only [List.eraseIdx_cons_zero, look]
    by_cases hk : k = n
    · subst hk; simp; exact look_none.2 hnd.1
    · simp [hk]
  | p :: ps, j + 1, n, y, h, hnd => by
    simp only [keysOf, List.map_cons, List.nodup_cons] at hnd
    have h' : ps[j]? = some (n, y) := by simpa using h
    obtain ⟨h1, h2⟩ := look_erase ps j n y h' hnd.2
    refine ⟨?_, fun k => ?_⟩
    · simp only [List.eraseIdx_cons_succ, keysOf, List.map_cons, List.nodup_cons]
      refine ⟨fun hm => hnd.1 ?_, h1⟩
      obtain ⟨q, hq, e⟩ := List.mem_map.1 hm
      exact List.mem_map.2 ⟨q, (List.eraseIdx_sublist ps j).subset hq, e⟩
    · simp only [List.eraseIdx_cons_succ, look, h2]
      by_cases hk : k = p.1
      · have : k ≠ n := fun e => hnd.1 (by rw [← hk, e]; exact List.mem_map.2 ⟨(n, y), List.mem_of_getElem? h', rfl⟩)
        simp [hk]; rw [hk] at this; simp [this]
      · simp [hk]
theorem ents_set (ps : List (Int × AVal)) (j : Nat) (n : Int) (x : AVal) : (ents ps).set j (.int .i64 n, x) = ents (ps.set j (n, x)) := by simp [ents, List.map_set]
theorem ents_erase (ps : List (Int × AVal)) (j : Nat) : (ents ps).eraseIdx j = ents (ps.eraseIdx j) := by
  induction ps generalizing j with
  | nil => rfl
  | cons p ps ih => cases j with
    | zero => rfl
    | succ j => simp only [ents, List.map_cons, List.eraseIdx_cons_succ]; congr 1; exact ih j

theorem MapV.mput (h : MapV σ l ps) (n : Int) (x : AVal) : ∃ qs, (∀ {Rt : Type} (K : Heap → Option Rt), mputK σ (.map l) .i64 n x K = K (σ.set l (.map (ents qs)))) ∧ MapV (σ.set l (.map (ents qs))) l qs ∧ (∀ k, look qs k = if k = n then some x else look ps k) ∧ qs.length ≤ ps.length + 1 := by
  rcases mfind_ents n ps 0 with ⟨h1, h2⟩ | ⟨j, y, h1, h2, h3⟩
  · refine ⟨ps ++ [(n, x)], fun K => ?_, ⟨h.lt, by rw [hset_get, if_pos rfl], ?_⟩, look_append ps n x h1, by simp⟩
    · simp only [mputK, h.get, h2]; congr 3; simp [ents]
    · simp only [keysOf, List.map_append, List.map_cons, List.map_nil]
      exact List.nodup_append.2 ⟨h.nodup, by simp, fun a ha b hb e => by simp at hb; subst hb; subst e; exact look_none.1 h1 ha⟩
  · obtain ⟨g1, g2⟩ := look_set ps j n x y h3 h.nodup
    refine ⟨ps.set j (n, x), fun K => ?_, ⟨h.lt, by rw [hset_get, if_pos rfl], by rw [g1]; exact h.nodup⟩, g2, by simp⟩
    simp only [mputK, h.get, h2, Nat.zero_add, ents_set]
theorem MapV.mdel (h : MapV σ l ps) (n : Int) : ∃ qs, (∀ {Rt : Type} (K : Heap → Option Rt), mdelK σ (.map l) .i64 n K = K (σ.set l (.map (ents qs)))) ∧ MapV (σ.set l (.map (ents qs))) l qs ∧ (∀ k, look qs k = if k = n then none else look ps k) ∧ qs.length ≤ ps.length := by
  rcases mfind_ents n ps 0 with ⟨h1, h2⟩ | ⟨j, y, h1, h2, h3⟩
  · refine ⟨ps, fun K => ?_, ⟨h.lt, by rw [hset_get, if_pos rfl], h.nodup⟩, fun k => ?_, Nat.le_refl _⟩
    · simp only [mdelK, h.get, h2]
    · by_cases hk : k = n
      · rw [if_pos hk, hk, h1]
      · rw [if_neg hk]
  · obtain ⟨g1, g2⟩ := look_erase ps j n y h3 h.nodup
    refine ⟨ps.eraseIdx j, fun K => ?_, ⟨h.lt, by rw [hset_get, if_pos rfl], g1⟩, g2, by rw [List.length_eraseIdx]; split <;> omega⟩
    simp only [mdelK, h.get, h2, Nat.zero_add, ents_erase]
end
end Go.Proofs.YtgneblbblihaoaaDoor.A
