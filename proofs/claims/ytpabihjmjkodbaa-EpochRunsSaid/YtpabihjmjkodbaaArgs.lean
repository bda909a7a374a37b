/-
  A STATEMENT'S FRAME: the arguments as plain data; a call that leaves all as it was and returns true proves the row's step.
-/
import Derived.Test.YtpabihjmjkodbaaData
namespace Go.Proofs.Ytpabihjmjkodbaa.S
open Go Go.Proofs Go.ChangeShapes Go.WideShapes Go.ChangeAt Go.RowKit
set_option linter.unusedVariables false
set_option linter.unusedSimpArgs false

theorem G.run {w : World} {F : World → Prop} (h : G w [] F) : F w := h w ⟨fun _ => none, fun _ => rfl, Step.refl _ _, fun b cs e => by cases e⟩

theorem arg_of_rows {α : Type} (E : Enc α) {ks : List CK} (hE : ∀ cs, good ks cs → ∃ a, E.enc a = cs) (hk : ks.length = E.sz) {w : World} {v : Value} {n B : Nat} (h : RowsAt ks w v n B) : ∃ xs : List α, Arg w v E xs ∧ xs.length = n := by
  obtain ⟨oa, cap, rfl, h2, h3⟩ := h
  have : ∀ m, m ≤ n → ∃ xs : List α, xs.length = m ∧ ∀ i x, xs[i]? = some x → ∃ e o cs, oa = some ⟨e, o, none⟩ ∧ mem w e = some cs ∧ o + (i + 1) * E.sz ≤ cs.length ∧ (cs.drop (o + i * E.sz)).take E.sz = E.enc x := by
    intro m
    induction m with
    | zero => exact fun _ => ⟨[], rfl, by simp⟩
    | succ m ih =>
      intro hm
      obtain ⟨xs, hl, hx⟩ := ih (by omega)
      obtain ⟨e, o, cs, g1, g2, g3, g4, g5⟩ := h3 m (by omega)
      obtain ⟨a, ha⟩ := hE _ g5
      refine ⟨xs ++ [a], by simp [hl], fun i x hi => ?_⟩
      rcases Nat.lt_or_ge i xs.length with hlt | hge
      · rw [List.getElem?_append_left hlt] at hi
        exact hx i x hi
      · rw [List.getElem?_append_right hge] at hi
        have : i = m := by
          rcases Nat.lt_or_ge (i - xs.length) 1 with h1 | h1
          · omega
          · rw [List.getElem?_eq_none (by simpa using h1)] at hi; cases hi
        subst this
        rw [hl, Nat.sub_self] at hi
        cases hi
        exact ⟨e, o, cs, g1, g3, by rw [← hk]; exact g4, by rw [← hk, ← ha]⟩
  obtain ⟨xs, hl, hx⟩ := this n (Nat.le_refl n)
  refine ⟨xs, ⟨oa, cap, by rw [hl], fun h => ⟨?_, (h2 h).2⟩, hx⟩, hl⟩
  exact List.eq_nil_of_length_eq_zero (by rw [hl]; exact (h2 h).1)

section
variable {H : Type} {enc : TypeId × Value → H} {P : Program} {w : World} {base : Nat} {spare : Nat → Bool} {heldB : Bool}

/-- a slice of plain things among the arguments -/
theorem open_arg {α : Type} (E : Enc α) {r : Reach} {b0 : Nat} {t e : TypeId} {k : Nat} {ks : List CK} {v : Value} {d : DataW H} {ps : List MemPlace} (ht : P.underlying t = some (.slice e)) (hk : kinds P k e = some ks) (hc : P.cellsOf e = ks.length)
    (h0 : 0 < ks.length) (hE : ∀ cs, good ks cs → ∃ a, E.enc a = cs) (hs : ks.length = E.sz) (hval : Value.okWide P w r b0 t v) (h : DataW.Trod enc P w base spare heldB t v d ps) : ∃ xs : List α, Arg w v E xs := by
  obtain ⟨a, len, cap, rfl⟩ := okWide_slice ht hval
  obtain ⟨n, hr⟩ := rows_of_trod ht hk hc h0 rfl h
  obtain ⟨xs, hx, _⟩ := arg_of_rows E hE hs hr
  exact ⟨xs, hx⟩

end
end Go.Proofs.Ytpabihjmjkodbaa.S
