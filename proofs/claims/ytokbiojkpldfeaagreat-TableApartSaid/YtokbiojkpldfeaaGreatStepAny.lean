/-
  CHAPTER 18: a step, at any of the two places.
-/
import Derived.Test.YtokbiojkpldfeaaGreatStep
namespace Go.Proofs.YtokbiojkpldfeaaGreat.S
open Go Go.Proofs
set_option linter.unusedVariables false
set_option linter.unusedSimpArgs false

/-- a call of this chapter's, on one of its two objects -/
abbrev m0 (c : TCall) (r : Int) : TCall := ⟨within c.what 4 6, r, c.k, c.x⟩
theorem m0_which (c : TCall) (r : Int) : cWhich (m0 c r) = 4 ∨ cWhich (m0 c r) = 5 ∨ cWhich (m0 c r) = 6 := by
  unfold cWhich m0 within
  simp only
  split <;> omega
theorem m0_sort (c : TCall) (r : Int) : cSort (cWhich (m0 c r)) = 1 := by
  unfold cSort
  rw [if_pos (m0_which c r)]
theorem m0_place (c : TCall) (r : Int) : cPlace (m0 c r) = 2 + r % 2 := by
  unfold cPlace
  rw [m0_sort]
  show 2 * 1 + (0 + r % (1 - 0 + 1)) = _
  omega
theorem m0_places (c : TCall) (r : Int) : cPlace (m0 c r) = 2 ∨ cPlace (m0 c r) = 3 := by rw [m0_place]; omega
theorem good_call {x : TCall} (h : good TCallK (tCallE.enc x)) : 0 ≤ x.k := (inK_u64 h.2.2.2.2.2.1).1
theorem InvS.len {S0 : List Bk} {w : List Int} {r r' : Int} {o o2 : Option TD} {L L2 : List TPair} (I : InvS S0 w r r' o o2 L L2) : L.length ≤ 12 := by
  have h1 := rows_few I.l1 (tab_keys I.t1) I.k1
  have h2 := I.l1.2.length_eq
  unfold prs at h2
  rw [List.length_map] at h2
  omega

section
variable {w0 : Base} {L M : List Asn} {K : KV} {F : World → Prop} {C : Asn → List Asn} {b : Nat} {w w' : List Int} {v cv : Value} {p : List TPair × List TPair} {c : TCall} {L' : List TPair}
/-- new objects -/
theorem G.newObj (h : ∀ b, G w0 (ob ObjR b ([], []) :: L) (K (ptr b 0))) : G w0 L (boxW (.agg #[.slice none 0 0, .slice none 0 0, .slice none 0 0, .slice none 0 0, .slice none 0 0, .slice none 0 0, .slice none 0 0, .slice none 0 0]) K) := by
  refine G.box (cs := [.slice none 0 0, .slice none 0 0, .slice none 0 0, .slice none 0 0, .slice none 0 0, .slice none 0 0, .slice none 0 0, .slice none 0 0]) fun b => ?_
  refine G.nilsl tPairE ?_
  refine G.nilsl tPairE ?_
  refine ObjR_close (v2 := .slice none 0 0) (v3 := .slice none 0 0) b ([], []) rfl ⟨cells_slice, cells_slice⟩ ?_
  exact h b

theorem s_step_any [iv : Cells cv (TCall.cells c)] (hv : Cells v [v]) (I : ∃ o o2, Inv w 8 9 o o2 p.1 p.2) (hp : cPlace c = 2 ∨ cPlace c = 3) (hwh : cWhich c = 4 ∨ cWhich c = 5 ∨ cWhich c = 6) (hc : 0 ≤ c.k)
    (hK : ∀ u w' p', Cells u [u] → (∃ o o2, Inv w' 8 9 o o2 p'.1 p'.2) → G w0 (ob ObjR b p' :: sl wordE u w' :: M) (K (.tuple #[u, .bool true]))) : G w0 (ob ObjR b p :: sl wordE v w :: M) (CP Tryz.prog Fn.law18_step [v, ptr b 0, cv] K) := by
  obtain ⟨o, o2, I⟩ := I
  rcases hp with hp | hp
  · obtain ⟨w', o', L', hS, I'⟩ := step_ok (c := c) I ⟨by omega, by omega⟩ ⟨by omega, by omega⟩ (by omega) hc
    have hl := I.len
    have hl' := I'.len
    exact s_step_2 (p := p) (c := c) hv I.ok hp hwh (by omega) (by omega) hS fun u hu _ => hK u w' (L', p.2) hu ⟨o', o2, I'⟩
  · have I2 := I.swap
    obtain ⟨w', o', L', hS, I'⟩ := step_ok (c := c) I2 ⟨by omega, by omega⟩ ⟨by omega, by omega⟩ (by omega) hc
    have hl := I2.len
    have hl' := I'.len
    exact s_step_3 (p := p) (c := c) hv I.ok hp hwh (by omega) (by omega) hS fun u hu _ => hK u w' (p.1, L') hu ⟨o, o', I'.swap⟩
end
end Go.Proofs.YtokbiojkpldfeaaGreat.S
