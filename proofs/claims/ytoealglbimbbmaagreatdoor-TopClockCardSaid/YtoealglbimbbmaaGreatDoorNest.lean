/-
  ARGUMENTS WITH SLICES IN RECORDS: what is known of them, read off the row's own reading.
-/
import Derived.Test.YtoealglbimbbmaaGreatDoorFrame
namespace Go.Proofs.YtoealglbimbbmaaGreatDoor.S
open Go Go.ChangeShapes Go.WideShapes Go.ChangeAt Go.RowKit
set_option linter.unusedVariables false

/-- v is a slice of n elements of so many cells, each good -/
def RowsG (sz : Nat) (Gd : List Value → Prop) (w : World) (v : Value) (n : Nat) : Prop :=
  ∃ oa cap, v = .slice oa n cap ∧ (oa = none → n = 0 ∧ cap = 0) ∧ ∀ i, i < n → ∃ e o cs, oa = some ⟨e, o, none⟩ ∧ mem w e = some cs ∧ o + (i + 1) * sz ≤ cs.length ∧ Gd ((cs.drop (o + i * sz)).take sz)

inductive NK where
  | p (k : CK)
  | s (ks : List CK)

/-- cells of such kinds; a slice's elements are plain -/
def goodN (w : World) : List NK → List Value → Prop
  | [], [] => True
  | .p .b :: r, .bool _ :: vs => goodN w r vs
  | .p (.i k) :: r, .int k' n :: vs => k' = k ∧ (Lit.int k n).wf = true ∧ goodN w r vs
  | .s ks :: r, v :: vs => (∃ n, RowsG ks.length (good ks) w v n) ∧ goodN w r vs
  | _, _ => False

theorem goodN_append {w : World} : ∀ {ks ks' : List NK} {a b : List Value}, goodN w ks a → goodN w ks' b → goodN w (ks ++ ks') (a ++ b)
  | [], _, [], _, _, h => h
  | [], _, _ :: _, _, h, _ => h.elim
  | .p .b :: ks, _, v :: a, _, h, h' => by cases v <;> simp [goodN] at h ⊢ <;> exact goodN_append h h'
  | .p (.i k) :: ks, _, v :: a, _, h, h' => by cases v <;> simp [goodN] at h ⊢ <;> exact ⟨h.1, h.2.1, goodN_append h.2.2 h'⟩
  | .s q :: ks, _, v :: a, _, h, h' => ⟨h.1, goodN_append h.2 h'⟩
  | .p .b :: ks, _, [], _, h, _ => h.elim
  | .p (.i k) :: ks, _, [], _, h, _ => h.elim
  | .s q :: ks, _, [], _, h, _ => h.elim

theorem goodN_nil {w : World} {l : List Value} (h : goodN w [] l) : l = [] := by cases l <;> simp [goodN] at h ⊢
theorem goodN_b {w : World} {ks : List NK} {l : List Value} (h : goodN w (.p .b :: ks) l) : ∃ b l', l = .bool b :: l' ∧ goodN w ks l' := by
  cases l with
  | nil => exact h.elim
  | cons v l => cases v <;> first | exact ⟨_, _, rfl, h⟩ | exact h.elim
theorem goodN_i {w : World} {k : IntKind} {ks : List NK} {l : List Value} (h : goodN w (.p (.i k) :: ks) l) : ∃ n l', l = .int k n :: l' ∧ (Lit.int k n).wf = true ∧ goodN w ks l' := by
  cases l with
  | nil => exact h.elim
  | cons v l => cases v <;> first | exact ⟨_, _, by rw [h.1], h.2⟩ | exact h.elim
theorem goodN_s {w : World} {q : List CK} {ks : List NK} {l : List Value} (h : goodN w (.s q :: ks) l) : ∃ v l', l = v :: l' ∧ (∃ n, RowsG q.length (good q) w v n) ∧ goodN w ks l' := by
  cases l with
  | nil => exact h.elim
  | cons v l => exact ⟨_, _, rfl, h.1, h.2⟩

def kindsFN (g : TypeId → Option (List NK)) (c : TypeId → Nat) : List Field → Nat → Option (List NK)
  | [], _ => some []
  | f :: fs, o => match g f.type with
    | some ks => if f.offset = o ∧ ks.length = c f.type then (match kindsFN g c fs (o + ks.length) with | some l => some (ks ++ l) | none => none) else none
    | none => none

def kindsN (P : Program) : Nat → TypeId → Option (List NK)
  | 0, _ => none
  | n + 1, t => match P.underlying t with
    | some .bool => some [.p .b]
    | some (.int k) => some [.p (.i k)]
    | some (.slice e) => match kinds P n e with
      | some ks => if P.cellsOf e = ks.length ∧ 0 < ks.length then some [.s ks] else none
      | none => none
    | some (.struct fs) => match kindsFN (kindsN P n) P.cellsOf fs.toList 0 with
      | some ks => if ks.length = P.cellsOf t then some ks else none
      | none => none
    | _ => none

section
variable {H : Type} {enc : TypeId × Value → H} {P : Program} {w : World} {base : Nat} {spare : Nat → Bool} {held : Bool}

theorem rowsG_of_trod {t e : TypeId} {sz fuel : Nat} {Gd : List Value → Prop} {cs : List Value} {x : DataW H × List MemPlace} (ht : P.underlying t = some (.slice e)) (hc : P.cellsOf e = sz) (h0 : 0 < sz)
    (hgood : ∀ (n : Nat) (cs' : List Value) (y : DataW H × List MemPlace), DataW.trod enc P w base spare held n e cs' = some y → Gd cs') (hf : DataW.trod enc P w base spare held fuel t cs = some x) :
    ∃ v n, cs = [v] ∧ RowsG sz Gd w v n ∧ (n = 0 ∨ ∃ el sp, x.1 = .slice el sp ∧ el.length = n) := by
  rcases Deep.open_slice ht hf with ⟨he, _⟩ | ⟨a, len, cap, m, n, D, Pl, hcs, hb, hl, hm, hmm, hx, hi⟩
  · exact ⟨_, 0, he, ⟨none, 0, rfl, fun _ => ⟨rfl, rfl⟩, fun i hi => by omega⟩, .inl rfl⟩
  · have hlm : len ≤ m := by rw [hmm]; split <;> omega
    refine ⟨_, len, hcs, ⟨some a, cap, rfl, by simp, fun i hil => ?_⟩, .inr ⟨_, _, by rw [hx], by simp⟩⟩
    obtain ⟨cs', h1, h2⟩ := hi i (by omega)
    have hg := hgood n cs' _ h2
    obtain ⟨_, h3, h4⟩ := World.cells?_some h1
    rw [hc] at h3 h4
    obtain ⟨b, o, sp⟩ := a
    have hsp : sp = none := by
      obtain ⟨c0, g1, g2⟩ := hi 0 (by omega)
      obtain ⟨_, g3, g4⟩ := World.cells?_some g1
      have g5 := g4 0 (by omega)
      rw [List.getElem?_eq_getElem (by omega)] at g5
      have e0 : ((⟨b, o, sp⟩ : Addr).add (0 * P.cellsOf e)).add 0 = ⟨b, o, sp⟩ := by simp [Addr.add]
      rw [e0] at g5
      exact cell_spot g5
    subst hsp
    simp only [add_none] at h4
    have hsome := h4 0 h0
    rw [List.getElem?_eq_getElem (by omega), cell_eq] at hsome
    obtain ⟨ds, hm2, _⟩ := Option.bind_eq_some_iff.1 hsome
    have h6 : ∀ j, j < sz → ds[o + i * sz + j]? = cs'[j]? := fun j hj => by rw [← h4 j hj, cell_eq, hm2]; rfl
    have h7 : o + i * sz + (sz - 1) < ds.length := by
      have := h6 (sz - 1) (by omega)
      rw [List.getElem?_eq_getElem (l := cs') (by omega)] at this
      exact (List.getElem?_eq_some_iff.1 this).1
    have h8 : (ds.drop (o + i * sz)).take sz = cs' := by
      apply List.ext_getElem?
      intro j
      rw [List.getElem?_take]
      split
      · rename_i hj
        rw [List.getElem?_drop, h6 j hj]
      · rw [List.getElem?_eq_none (by omega)]
    exact ⟨b, o, ds, rfl, hm2, by rw [Nat.add_mul]; omega, by rw [h8]; exact hg⟩

theorem kindsFN_good {g : TypeId → Option (List NK)} {cs : List Value}
    (hg : ∀ (t : TypeId) ks m cs' (y : DataW H × List MemPlace), g t = some ks → DataW.trod enc P w base spare held m t cs' = some y → goodN w ks cs') : ∀ (l : List Field) (o : Nat) (ks : List NK), kindsFN g P.cellsOf l o = some ks →
    (∀ f ∈ l, ∃ m y, DataW.trod enc P w base spare held m f.type ((cs.drop f.offset).take (P.cellsOf f.type)) = some y) → o + ks.length = cs.length → goodN w ks (cs.drop o)
  | [], o, ks, h, _, hl => by
    simp only [kindsFN, Option.some.injEq] at h
    subst h
    rw [List.drop_eq_nil_of_le (by simp at hl; omega)]
    trivial
  | f :: l, o, ks, h, hf, hl => by
    simp only [kindsFN] at h
    split at h <;> try contradiction
    rename_i k1 e1
    split at h <;> try contradiction
    rename_i e2
    split at h <;> try contradiction
    rename_i k2 e3
    simp only [Option.some.injEq] at h
    subst h
    obtain ⟨m, y, hy⟩ := hf f (by simp)
    have h1 := hg _ _ _ _ _ e1 hy
    rw [e2.1, ← e2.2] at h1
    have h2 := kindsFN_good hg l _ _ e3 (fun f' hf' => hf f' (by simp [hf'])) (by simp at hl; omega)
    have := goodN_append h1 h2
    rwa [← List.drop_drop, List.take_append_drop] at this

theorem kindsN_good : ∀ (n : Nat) (t : TypeId) (ks : List NK) (m : Nat) (cs : List Value) (y : DataW H × List MemPlace), kindsN P n t = some ks → DataW.trod enc P w base spare held m t cs = some y → goodN w ks cs
  | 0, t, ks, m, cs, y, h, _ => by simp [kindsN] at h
  | n + 1, t, ks, m, cs, y, h, hy => by
    simp only [kindsN] at h
    split at h
    · rename_i e
      obtain ⟨b, rfl, _⟩ := DataW.trod_bool e hy
      cases h; trivial
    · rename_i k e
      obtain ⟨b, rfl, _, hw⟩ := DataW.trod_int e hy
      cases h; exact ⟨rfl, hw, trivial⟩
    · rename_i e' e
      split at h <;> try contradiction
      rename_i k1 e1
      split at h <;> try contradiction
      rename_i e2
      cases h
      obtain ⟨v, n', rfl, hr, _⟩ := rowsG_of_trod e e2.1 e2.2 (fun m cs' y h => kinds_good n e' k1 m cs' y e1 h) hy
      exact ⟨⟨n', hr⟩, trivial⟩
    · rename_i fs e
      split at h <;> try contradiction
      rename_i k1 e1
      split at h <;> try contradiction
      rename_i e2
      cases h
      obtain ⟨xs, m', _, _, hl, hlen, hf⟩ := DataW.trod_struct e hy
      have := kindsFN_good (cs := cs) (kindsN_good n) fs.toList 0 ks e1 (fun f hfm => by
        obtain ⟨i, hi, rfl⟩ := List.getElem_of_mem hfm
        have hi' : i < fs.size := by simpa using hi
        have h3 := hf i fs[i] (by simp [hi'])
        rw [List.getElem?_eq_getElem (by omega)] at h3
        exact ⟨m', _, by simpa using h3⟩) (by omega)
      simpa using this
    · contradiction

end
end Go.Proofs.YtoealglbimbbmaaGreatDoor.S
