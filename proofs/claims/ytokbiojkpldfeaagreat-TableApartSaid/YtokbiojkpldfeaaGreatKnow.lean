/-
  CHAPTER 18: a view that comes to know words.
-/
import Derived.Test.YtokbiojkpldfeaaGreatPlF
import Derived.Test.YtokbiojkpldfeaaGreatStepAny
namespace Go.Proofs.YtokbiojkpldfeaaGreat.S
open Go Go.Proofs
set_option linter.unusedVariables false
set_option linter.unusedSimpArgs false

theorem knW_some {w : List Int} {nd : Int} (h : lookC (knW w 255) nd ≠ none) : lookC (knW w 255) nd = some (hOf w nd) ∧ 1 ≤ nd ∧ nd < 256 := by
  cases hl : lookC (knW w 255) nd with
  | none => exact absurd hl h
  | some x =>
    obtain ⟨c, hc, e⟩ := lookC_mem' hl
    have := knW_nodup.2 c hc
    have h2 := knW_look (w := w) (j := 255) (p := nd) (by omega) (by omega)
    rw [hl] at h2
    exact ⟨h2, by omega, by omega⟩
/-- one word more is known -/
theorem know_next {s : VwS} {Q : List TCell} {nd x : Int} (C : Clean s) (hsub : ∀ a x, lookC s.k a = some x → lookC Q a = some x) (h1 : 1 ≤ nd) (h2 : nd < 256) (hn : lookC s.k nd = none) (hx : lookC Q nd = some x) :
    vKnow ⟨s.size, s.k, s.l, nd⟩ nd x = (⟨s.size, s.k ++ [⟨nd, x⟩], s.l, nd⟩, 0) ∧ Clean ⟨s.size, s.k ++ [⟨nd, x⟩], s.l, nd⟩ ∧ ∀ a y, lookC (s.k ++ [⟨nd, x⟩]) a = some y → lookC Q a = some y := by
  refine ⟨?_, ⟨C.size, C.l, ?_, fun c hc => ?_⟩, fun a y hy => ?_⟩
  · unfold vKnow
    rw [if_pos (by unfold isV; simp only [C.size]; simp; omega)]
    simp only [hn]
  · show ((s.k ++ [(⟨nd, x⟩ : TCell)]).map fun z : TCell => z.place).Nodup
    rw [List.map_append, List.nodup_append]
    refine ⟨C.nodup, by simp, fun p hp q hq e => ?_⟩
    simp only [List.map_cons, List.map_nil, List.mem_singleton] at hq
    obtain ⟨c, hc, rfl⟩ := List.mem_map.1 hp
    obtain ⟨j, hj, e2⟩ := List.getElem_of_mem hc
    have := lookC_of C.nodup hj
    rw [e2, e, hq, hn] at this
    cases this
  · rcases List.mem_append.1 hc with hc | hc
    · exact C.pos c hc
    · rw [List.mem_singleton.1 hc]; exact ⟨h1, h2⟩
  · rw [lookC_append hn] at hy
    split at hy
    · rename_i e; subst e; rw [hx, ← hy]
    · exact hsub a y hy
theorem clean_few {s : VwS} (C : Clean s) : s.k.length ≤ 255 := by
  have := nodup_fewK 255 (s.k.map fun c => c.place - 1) (by
    have h := C.nodup
    rw [List.nodup_iff_pairwise_ne, List.pairwise_map] at h ⊢
    exact h.imp fun h => by omega) (fun x hx => by
    obtain ⟨c, hc, rfl⟩ := List.mem_map.1 hx
    have := C.pos c hc
    omega)
  simpa using this
/-- the heap, as the call's own root sees it -/
theorem inv_at {w : List Int} {p : List TPair × List TPair} (I : ∃ o o2, Inv w 8 9 o o2 p.1 p.2) (c : TCall) : ∃ r r' o o2 L1 L2, r = 6 + cPlace (m0 c c.root) ∧ (6 ≤ r ∧ r < 14) ∧ (6 ≤ r' ∧ r' < 14) ∧ r ≠ r' ∧ Inv w r r' o o2 L1 L2 := by
  obtain ⟨o, o2, I⟩ := I
  rcases m0_places c c.root with h | h
  · exact ⟨8, 9, o, o2, _, _, by omega, by omega, by omega, by omega, I⟩
  · exact ⟨9, 8, o2, o, _, _, by omega, by omega, by omega, by omega, I.swap⟩
theorem Clean.new : Clean (vNew 256 96) := ⟨rfl, rfl, List.nodup_nil, by simp [vNew]⟩


/-! ### words that may be touched -/
noncomputable def tQ (X : Cx) (w : List Int) : List TCell := by
  classical exact (knW w 255).filter fun c => decide (X.T c.place)
theorem lookC_filter {P : Int → Prop} [DecidablePred P] {a : Int} : ∀ {l : List TCell}, lookC (l.filter fun c => decide (P c.place)) a = if P a then lookC l a else none := by
  intro l
  induction l with
  | nil => split <;> rfl
  | cons c l ih =>
    rw [List.filter_cons]
    by_cases hp : P c.place
    · rw [if_pos (by simpa using hp), lookC_cons, ih]
      by_cases e : c.place = a
      · rw [if_pos e, ← e, if_pos hp, lookC_cons, if_pos rfl]
      · rw [if_neg e]
        conv => rhs; rw [lookC_cons, if_neg e]
    · rw [if_neg (by simpa using hp), ih]
      by_cases e : c.place = a
      · rw [← e, if_neg hp, if_neg hp]
      · conv => rhs; rw [lookC_cons, if_neg e]
theorem tQ_look {X : Cx} {w : List Int} {a : Int} (ta : X.T a) : lookC (tQ X w) a = some (hOf w a) := by
  classical
  unfold tQ
  have h := lookC_filter (P := X.T) (a := a) (l := knW w 255)
  rw [if_pos ta, knW_look ta.1 (by have := ta.2.1; omega)] at h
  exact h
theorem tQ_T {X : Cx} {w : List Int} {a : Int} (h : lookC (tQ X w) a ≠ none) : X.T a := by
  classical
  apply Classical.byContradiction
  intro ta
  apply h
  unfold tQ
  have h := lookC_filter (P := X.T) (a := a) (l := knW w 255)
  rw [if_neg ta] at h
  exact h
theorem tQ_clean {X : Cx} {w : List Int} : Clean ⟨256, tQ X w, ⟨96, ⟨[], []⟩, []⟩, 0⟩ := by
  classical
  refine ⟨rfl, rfl, ?_, fun c hc => ?_⟩
  · show ((tQ X w).map fun z : TCell => z.place).Nodup
    unfold tQ
    exact (knW_nodup.1).sublist (List.Sublist.map _ (List.filter_sublist))
  · have : c ∈ knW w 255 := by
      have hc : c ∈ tQ X w := hc
      unfold tQ at hc
      exact (List.mem_filter.1 hc).1
    have := knW_nodup.2 c this
    omega
end Go.Proofs.YtokbiojkpldfeaaGreat.S
