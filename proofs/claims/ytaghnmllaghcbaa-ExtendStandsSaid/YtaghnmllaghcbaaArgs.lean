/-
  A STATEMENT'S FRAME: the arguments as plain data; a call that leaves all as it was and returns true proves the row's step.
-/
import Derived.Test.YtaghnmllaghcbaaData
namespace Go.Proofs.Ytaghnmllaghcbaa.S
open Go Go.Proofs Go.ChangeShapes Go.WideShapes Go.ChangeAt Go.RowKit
set_option linter.unusedVariables false
set_option linter.unusedSimpArgs false

theorem G.run {w : World} {F : World → Prop} (h : G w [] F) : F w := h w ⟨fun _ => none, fun _ => rfl, Step.refl _ _, fun b cs e => by cases e⟩

section
variable {H : Type} {enc : TypeId × Value → H} {P : Program} {w : World} {base : Nat} {spare : Nat → Bool} {heldB : Bool}

/-- a slice of plain things among the arguments -/
theorem open_arg {α : Type} (E : Enc α) {r : Reach} {b0 : Nat} {t e : TypeId} {k : Nat} {ks : List CK} {v : Value} {d : DataW H} {ps : List MemPlace} (ht : P.underlying t = some (.slice e)) (hk : kinds P k e = some ks) (hc : P.cellsOf e = ks.length)
    (h0 : 0 < ks.length) (hE : ∀ cs, good ks cs → ∃ a, E.enc a = cs) (hs : ks.length = E.sz) (hval : Value.okWide P w r b0 t v) (h : DataW.Trod enc P w base spare heldB t v d ps) : ∃ xs : List α, Arg w v E xs ∧ (∀ x ∈ xs, good ks (E.enc x)) ∧ (xs.length = 0 ∨ ∃ el sp, d = .slice el sp ∧ el.length = xs.length) := by
  obtain ⟨a, len, cap, rfl⟩ := okWide_slice ht hval
  obtain ⟨fuel, hf⟩ := h
  obtain ⟨v, n, hv, hr, hsz⟩ := rowsG_of_trod ht hc h0 (fun m cs' y h => kinds_good k e ks m cs' y hk h) hf
  obtain rfl : Value.slice a len cap = v := by simpa [Value.cells] using hv
  rw [hs] at hr
  obtain ⟨xs, h1, h2, h3⟩ := arg_of_rowsG E (fun a => good ks (E.enc a)) (fun cs hc => (hE cs hc).elim fun a ha => ⟨a, ha, by rw [ha]; exact hc⟩) hr
  exact ⟨xs, h1, h2, by rw [h3]; exact hsz⟩

/-- a slice of records that hold slices of plain things -/
theorem open_argN {α : Type} (E : Enc α) (Q : α → Prop) {r : Reach} {b0 : Nat} {t e : TypeId} {k : Nat} {ks : List NK} {v : Value} {d : DataW H} {ps : List MemPlace} (ht : P.underlying t = some (.slice e)) (hk : kindsN P k e = some ks) (hc : P.cellsOf e = ks.length)
    (h0 : 0 < ks.length) (hE : ∀ cs, goodN w ks cs → ∃ a, E.enc a = cs ∧ Q a) (hs : ks.length = E.sz) (hval : Value.okWide P w r b0 t v) (h : DataW.Trod enc P w base spare heldB t v d ps) : ∃ xs : List α, Arg w v E xs ∧ (∀ x ∈ xs, Q x) ∧ (xs.length = 0 ∨ ∃ el sp, d = .slice el sp ∧ el.length = xs.length) := by
  obtain ⟨a, len, cap, rfl⟩ := okWide_slice ht hval
  obtain ⟨fuel, hf⟩ := h
  obtain ⟨v, n, hv, hr, hsz⟩ := rowsG_of_trod ht hc h0 (fun m cs' y h => kindsN_good k e ks m cs' y hk h) hf
  obtain rfl : Value.slice a len cap = v := by simpa [Value.cells] using hv
  rw [hs] at hr
  obtain ⟨xs, h1, h2, h3⟩ := arg_of_rowsG E Q hE hr
  exact ⟨xs, h1, h2, by rw [h3]; exact hsz⟩

end
end Go.Proofs.Ytaghnmllaghcbaa.S
