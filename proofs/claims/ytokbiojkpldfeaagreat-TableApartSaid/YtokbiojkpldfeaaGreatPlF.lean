/-
  CHAPTER 18, plain laws: a draft that knows less.
-/
import Derived.Test.YtokbiojkpldfeaaGreatPlA
set_option linter.unusedVariables false
set_option linter.unusedSimpArgs false
/-! ### a draft that knows less: it goes the same way, or asks for a word -/
namespace Go.Proofs.YtokbiojkpldfeaaGreat.S
open Go Go.Proofs
structure Pq where
  P : List TCell
  Q : List TCell
  sub : ∀ a x, lookC P a = some x → lookC Q a = some x
/-- views that differ in what they know alone -/
structure SimV (Z : Pq) (s t : VwS) : Prop where
  l : s.l = t.l
  size : s.size = t.size
  ks : s.k = Z.P
  kt : t.k = Z.Q
  le : t.size ≤ 256
/-- a word is needed that only the other one knows -/
def BadV (Z : Pq) (s : VwS) : Prop := 1 ≤ s.need ∧ s.need < 256 ∧ lookC Z.P s.need = none ∧ lookC Z.Q s.need ≠ none
structure Sim (Z : Pq) (d e : DrS) : Prop where
  err : d.err = e.err
  st : d.steps = e.steps
  v : SimV Z d.v e.v
def Bad (Z : Pq) (d : DrS) : Prop := d.err = 11 ∧ BadV Z d.v
section
variable {Z : Pq} {s t : VwS} {d e : DrS} {a b x y p c k n root : Int}

theorem vsim_read (H : SimV Z s t) : (SimV Z (vRead s a).1 (vRead t a).1 ∧ (vRead s a).2 = (vRead t a).2) ∨ (BadV Z (vRead s a).1 ∧ (vRead s a).2 = (0, 11)) := by
  unfold vRead
  have ei : isV s a = isV t a := by unfold isV; rw [H.size]
  rw [ei, H.l]
  split
  · rename_i hv
    cases lookR (t.l.r :: t.l.up) a with
    | some z => exact .inl ⟨H, rfl⟩
    | none =>
      simp only
      rw [H.ks, H.kt]
      cases hp : lookC Z.P a with
      | some z => rw [Z.sub a z hp]; exact .inl ⟨H, rfl⟩
      | none =>
        cases hq : lookC Z.Q a with
        | none => exact .inl ⟨⟨rfl, H.size, rfl, rfl, H.le⟩, rfl⟩
        | some z =>
          refine .inr ⟨?_, rfl⟩
          have h2 : 1 ≤ a ∧ a < (s.size : Int) := by
            rw [← ei] at hv
            unfold isV at hv
            simpa using hv
          have h3 := H.le
          have h4 := H.size
          exact ⟨h2.1, by show a < 256; omega, hp, by show lookC Z.Q a ≠ none; rw [hq]; simp⟩
  · exact .inl ⟨H, rfl⟩
theorem vsim_take (H : SimV Z s t) {l : List TCell} : SimV Z (vTake s l).1 (vTake t l).1 ∧ (vTake s l).2 = (vTake t l).2 := by
  unfold vTake
  have ei : ∀ a, isV s a = isV t a := fun a => by unfold isV; rw [H.size]
  simp only [ei, H.l]
  split
  · exact ⟨⟨rfl, H.size, H.ks, H.kt, H.le⟩, rfl⟩
  · exact ⟨H, rfl⟩
theorem vsim_write (H : SimV Z s t) : SimV Z (vWrite s a x).1 (vWrite t a x).1 ∧ (vWrite s a x).2 = (vWrite t a x).2 := by
  unfold vWrite
  have ei : isV s a = isV t a := by unfold isV; rw [H.size]
  rw [ei, H.l]
  split
  · exact ⟨⟨rfl, H.size, H.ks, H.kt, H.le⟩, rfl⟩
  · exact ⟨H, rfl⟩
theorem vsim_again (H : SimV Z s t) : (SimV Z (aAgain s c b).1 (aAgain t c b).1 ∧ (aAgain s c b).2 = (aAgain t c b).2) ∨ (BadV Z (aAgain s c b).1 ∧ (aAgain s c b).2 = (0, 11)) := by
  unfold aAgain
  split
  · exact .inl ⟨H, rfl⟩
  · rcases vsim_read (a := w64 b) H with ⟨h1, h2⟩ | ⟨h1, h2⟩
    · rw [h2]
      split
      · obtain ⟨g1, g2⟩ := vsim_take (l := [⟨aHead c, (vRead t (w64 b)).2.1⟩, ⟨w64 (w64 b - 1), wU (w64 (c + 8))⟩]) h1
        rw [g2]
        split
        · exact .inl ⟨g1, rfl⟩
        · exact .inl ⟨g1, rfl⟩
      · exact .inl ⟨h1, rfl⟩
    · rw [h2]
      simp only
      rw [if_neg (by omega)]
      exact .inr ⟨h1, rfl⟩
theorem vsim_grown (H : SimV Z s t) : (SimV Z (aGrown s c).1 (aGrown t c).1 ∧ (aGrown s c).2 = (aGrown t c).2) ∨ (BadV Z (aGrown s c).1 ∧ (aGrown s c).2 = (0, 11)) := by
  unfold aGrown
  rcases vsim_read (a := 5) H with ⟨h1, h2⟩ | ⟨h1, h2⟩
  · rw [h2, h1.size]
    split
    · split
      · exact .inl ⟨h1, rfl⟩
      · obtain ⟨g1, g2⟩ := vsim_take (l := grownC (vRead t 5).2.1 c) h1
        rw [g2]
        split
        · exact .inl ⟨g1, rfl⟩
        · exact .inl ⟨g1, rfl⟩
    · exact .inl ⟨h1, rfl⟩
  · rw [h2]
    simp only
    rw [if_neg (by omega)]
    exact .inr ⟨h1, rfl⟩
theorem vsim_alloc (H : SimV Z s t) : (SimV Z (aAlloc s n).1 (aAlloc t n).1 ∧ (aAlloc s n).2 = (aAlloc t n).2) ∨ (BadV Z (aAlloc s n).1 ∧ (aAlloc s n).2 = (0, 11)) := by
  unfold aAlloc
  split
  · exact .inl ⟨H, rfl⟩
  · rcases vsim_read (a := aHead (aClass n)) H with ⟨h1, h2⟩ | ⟨h1, h2⟩
    · rw [h2]
      split
      · split
        · exact vsim_grown h1
        · exact vsim_again h1
      · exact .inl ⟨h1, rfl⟩
    · rw [h2]
      simp only
      rw [if_neg (by omega)]
      exact .inr ⟨h1, rfl⟩
theorem vsim_asked (H : SimV Z s t) : (SimV Z (aAsked s b).1 (aAsked t b).1 ∧ (aAsked s b).2 = (aAsked t b).2) ∨ (BadV Z (aAsked s b).1 ∧ (aAsked s b).2 = (0, false, 11)) := by
  unfold aAsked
  rw [H.size]
  split
  · exact .inl ⟨H, rfl⟩
  · rcases vsim_read (a := w64 (b - 1)) H with ⟨h1, h2⟩ | ⟨h1, h2⟩
    · rw [h2]
      split
      · split
        · exact .inl ⟨h1, rfl⟩
        · exact .inl ⟨h1, rfl⟩
      · exact .inl ⟨h1, rfl⟩
    · rw [h2]
      simp only
      rw [if_neg (by omega)]
      exact .inr ⟨h1, rfl⟩
theorem vsim_free (H : SimV Z s t) : (SimV Z (aFree s b).1 (aFree t b).1 ∧ (aFree s b).2 = (aFree t b).2) ∨ (BadV Z (aFree s b).1 ∧ (aFree s b).2 = 11) := by
  unfold aFree
  rcases vsim_asked (b := b) H with ⟨h1, h2⟩ | ⟨h1, h2⟩
  · generalize aAsked s b = q at h1 h2
    generalize aAsked t b = u at h1 h2
    obtain ⟨q1, q2⟩ := q
    obtain ⟨u1, u2⟩ := u
    simp only at h1 h2
    subst h2
    unfold aFreeIn
    split
    · split
      · obtain ⟨g1, g2⟩ := vsim_take (l := [⟨w64 (b - 1), wU q2.1⟩]) h1
        simp only at g1 g2 ⊢
        rw [g2]
        split
        · exact .inl ⟨⟨by show (vTake q1 _).1.l.free b = (vTake u1 _).1.l.free b; rw [g1.l], g1.size, g1.ks, g1.kt, g1.le⟩, rfl⟩
        · exact .inl ⟨g1, g2⟩
      · exact .inl ⟨h1, rfl⟩
    · exact .inl ⟨h1, rfl⟩
  · unfold aFreeIn
    rw [h2]
    simp only
    rw [if_neg (by omega)]
    exact .inr ⟨h1, rfl⟩

/-! drafts -/
theorem Bad.stk (H : Bad Z d) : Stk 11 d.v d := ⟨H.1, rfl⟩
theorem Bad.of (H : Bad Z d) {d' : DrS} (h : Stk 11 d.v d') : Bad Z d' := ⟨h.err, by rw [h.v]; exact H.2⟩
theorem ne11 : (11 : Int) ≠ 0 := by decide
theorem sim_fail (H : Sim Z d e) {n : Int} : Sim Z (dFail d n) (dFail e n) := by
  unfold dFail
  by_cases h0 : e.err = 0
  · rw [if_pos (H.err.trans h0), if_pos h0]
    exact ⟨rfl, H.st, H.v⟩
  · rw [if_neg (fun h => h0 (H.err.symm.trans h)), if_neg h0]
    exact H
theorem sim_v (H : Sim Z d e) {s t : VwS} (h : SimV Z s t) : Sim Z { d with v := s } { e with v := t } := ⟨H.err, H.st, h⟩
theorem bad_v (h0 : d.err = 0) {s : VwS} (h : BadV Z s) : Bad Z (dFail { d with v := s } 11) := by
  unfold dFail
  rw [if_pos h0]
  exact ⟨rfl, h⟩
theorem sim_read (H : Sim Z d e) : (Sim Z (dRead d a).1 (dRead e a).1 ∧ (dRead d a).2 = (dRead e a).2) ∨ (Bad Z (dRead d a).1 ∧ (dRead d a).2 = 0) := by
  unfold dRead
  by_cases h0 : e.err = 0
  · have h0d := H.err.trans h0
    rw [if_pos h0d, if_pos h0]
    rcases vsim_read (a := a) H.v with ⟨h1, h2⟩ | ⟨h1, h2⟩
    · rw [h2]
      exact .inl ⟨sim_fail (sim_v H h1), rfl⟩
    · rw [h2]
      exact .inr ⟨bad_v h0d h1, rfl⟩
  · rw [if_neg (fun h => h0 (H.err.symm.trans h)), if_neg h0]
    exact .inl ⟨H, rfl⟩
theorem sim_name (H : Sim Z d e) {w : Int} : Sim Z (dName d w).1 (dName e w).1 ∧ (dName d w).2 = (dName e w).2 := by
  unfold dName
  split
  · exact ⟨sim_fail H, rfl⟩
  · exact ⟨H, rfl⟩
theorem sim_place (H : Sim Z d e) : (Sim Z (dPlace d a).1 (dPlace e a).1 ∧ (dPlace d a).2 = (dPlace e a).2) ∨ (Bad Z (dPlace d a).1 ∧ (dPlace d a).2 = 0) := by
  unfold dPlace
  rcases sim_read (a := a) H with ⟨h1, h2⟩ | ⟨h1, h2⟩
  · rw [h2]; exact .inl (sim_name h1)
  · rw [h2]
    unfold dName
    rw [if_neg (by omega), i64e (by omega) (by omega)]
    exact .inr ⟨h1, rfl⟩
theorem sim_write (H : Sim Z d e) : Sim Z (dWrite d a x) (dWrite e a x) := by
  unfold dWrite
  by_cases h0 : e.err = 0
  · rw [if_pos (H.err.trans h0), if_pos h0]
    obtain ⟨h1, h2⟩ := vsim_write (a := a) (x := x) H.v
    rw [h2]
    exact sim_fail (sim_v H h1)
  · rw [if_neg (fun h => h0 (H.err.symm.trans h)), if_neg h0]
    exact H
theorem sim_point (H : Sim Z d e) : Sim Z (dPoint d a x) (dPoint e a x) := sim_write H
theorem sim_step (H : Sim Z d e) : Sim Z (dStep d) (dStep e) := by
  have H2 : Sim Z { d with steps := w64 (d.steps + 1) } { e with steps := w64 (e.steps + 1) } := ⟨H.err, by show w64 (d.steps + 1) = w64 (e.steps + 1); rw [H.st], H.v⟩
  unfold dStep
  by_cases h0 : 2048 < w64 (e.steps + 1)
  · rw [if_pos (by rw [H.st]; exact h0), if_pos h0]
    exact sim_fail H2
  · rw [if_neg (by rw [H.st]; exact h0), if_neg h0]
    exact H2
theorem sim_alloc (H : Sim Z d e) : (Sim Z (dAlloc d n).1 (dAlloc e n).1 ∧ (dAlloc d n).2 = (dAlloc e n).2) ∨ Bad Z (dAlloc d n).1 := by
  unfold dAlloc
  by_cases h0 : e.err = 0
  · have h0d := H.err.trans h0
    rw [if_pos h0d, if_pos h0]
    rcases vsim_alloc (n := n) H.v with ⟨h1, h2⟩ | ⟨h1, h2⟩
    · rw [h2]
      exact .inl ⟨sim_fail (sim_v H h1), rfl⟩
    · rw [h2]
      exact .inr (bad_v h0d h1)
  · rw [if_neg (fun h => h0 (H.err.symm.trans h)), if_neg h0]
    exact .inl ⟨H, rfl⟩
theorem sim_free (H : Sim Z d e) : Sim Z (dFree d n) (dFree e n) ∨ Bad Z (dFree d n) := by
  unfold dFree
  by_cases h0 : e.err = 0
  · have h0d := H.err.trans h0
    rw [if_pos h0d, if_pos h0]
    rcases vsim_free (b := n) H.v with ⟨h1, h2⟩ | ⟨h1, h2⟩
    · rw [h2]
      exact .inl (sim_fail (sim_v H h1))
    · rw [h2]
      exact .inr (bad_v h0d h1)
  · rw [if_neg (fun h => h0 (H.err.symm.trans h)), if_neg h0]
    exact .inl H

/-! the table's functions -/
theorem sim_open (H : Sim Z d e) : (Sim Z (tOpen d root).1 (tOpen e root).1 ∧ (tOpen d root).2 = (tOpen e root).2) ∨ (Bad Z (tOpen d root).1) := by
  unfold tOpen
  rcases sim_place (a := root) H with ⟨h1, h2⟩ | ⟨h1, h2⟩
  · rw [h2]
    split
    · exact .inl ⟨h1, rfl⟩
    · simp only
      generalize (dPlace e root).2 = hd
      rcases sim_read (a := w64 (hd + 0)) h1 with ⟨g1, g2⟩ | ⟨g1, g2⟩
      · rw [g2]
        rcases sim_read (a := w64 (hd + 1)) g1 with ⟨k1, k2⟩ | ⟨k1, k2⟩
        · rw [k2]
          have H3 : Sim Z (if badWide (dRead (dRead (dPlace e root).1 (w64 (hd + 0))).1 (w64 (hd + 1))).2 = true then dFail (dRead (dRead (dPlace d root).1 (w64 (hd + 0))).1 (w64 (hd + 1))).1 2 else (dRead (dRead (dPlace d root).1 (w64 (hd + 0))).1 (w64 (hd + 1))).1) (if badWide (dRead (dRead (dPlace e root).1 (w64 (hd + 0))).1 (w64 (hd + 1))).2 = true then dFail (dRead (dRead (dPlace e root).1 (w64 (hd + 0))).1 (w64 (hd + 1))).1 2 else (dRead (dRead (dPlace e root).1 (w64 (hd + 0))).1 (w64 (hd + 1))).1) := by
            split
            · exact sim_fail k1
            · exact k1
          rcases sim_place (a := w64 (hd + 2)) H3 with ⟨l1, l2⟩ | ⟨l1, l2⟩
          · rw [l2]; exact .inl ⟨l1, rfl⟩
          · exact .inr l1
        · right
          have D := k1.stk
          refine k1.of ?_
          have D2 : Stk 11 (dRead (dRead (dPlace d root).1 (w64 (hd + 0))).1 (w64 (hd + 1))).1.v (if badWide (dRead (dRead (dPlace d root).1 (w64 (hd + 0))).1 (w64 (hd + 1))).2 = true then dFail (dRead (dRead (dPlace d root).1 (w64 (hd + 0))).1 (w64 (hd + 1))).1 2 else (dRead (dRead (dPlace d root).1 (w64 (hd + 0))).1 (w64 (hd + 1))).1) := by
            split
            · exact D.fail ne11
            · exact D
          rw [D2.place ne11]
          exact D2
      · right
        have D := g1.stk
        refine g1.of ?_
        rw [D.read ne11]
        simp only
        have D2 : Stk 11 (dRead (dPlace d root).1 (w64 (hd + 0))).1.v (if badWide 0 = true then dFail (dRead (dPlace d root).1 (w64 (hd + 0))).1 2 else (dRead (dPlace d root).1 (w64 (hd + 0))).1) := by
          split
          · exact D.fail ne11
          · exact D
        rw [D2.place ne11]
        exact D2
  · rw [h2]
    simp only [if_true]
    exact .inr h1
theorem sim_seekN : ∀ {fu : Nat} {d e : DrS} {a : Int}, Sim Z d e → (Sim Z (seekN k fu d a).1 (seekN k fu e a).1 ∧ (seekN k fu d a).2 = (seekN k fu e a).2) ∨ Bad Z (seekN k fu d a).1 := by
  intro fu
  induction fu with
  | zero => intro d e a H; exact .inl ⟨H, rfl⟩
  | succ fu ih =>
    intro d e a H
    have H2 := sim_step H
    unfold seekN
    rw [H2.err]
    split
    · rcases sim_place (a := a) H2 with ⟨h1, h2⟩ | ⟨h1, h2⟩
      · rw [h2]
        split
        · exact .inl ⟨h1, rfl⟩
        · rcases sim_read (a := w64 ((dPlace (dStep e) a).2 + 0)) h1 with ⟨g1, g2⟩ | ⟨g1, g2⟩
          · rw [g2]
            split
            · exact .inl ⟨g1, rfl⟩
            · exact ih g1
          · rw [g2]
            right
            split
            · exact g1
            · exact g1.of (g1.stk.seekN ne11).1
      · rw [h2]
        simp only [if_true]
        exact .inr h1
    · exact .inl ⟨H2, rfl⟩

theorem sim_tSeek (H : Sim Z d e) {t : TbS} : (Sim Z (tSeek d t k).1 (tSeek e t k).1 ∧ (tSeek d t k).2 = (tSeek e t k).2) ∨ Bad Z (tSeek d t k).1 := by
  unfold tSeek
  have ef : fuel d = fuel e := by unfold fuel; rw [H.st]
  rw [ef]
  exact sim_seekN H
def SimF (Z : Pq) {σ : Type} (f : σ → DrS → Int → σ × DrS) : Prop := ∀ s d e a, Sim Z d e → (Sim Z (f s d a).2 (f s e a).2 ∧ (f s d a).1 = (f s e a).1) ∨ Bad Z (f s d a).2
theorem sim_inN {σ : Type} {f : σ → DrS → Int → σ × DrS} (hf : SimF Z f) (hb : ∀ s d a, Bad Z d → Bad Z (f s d a).2) : ∀ {fu : Nat} {s : σ} {d e : DrS} {a : Int}, Sim Z d e → (Sim Z (inN f fu s d a).2 (inN f fu s e a).2 ∧ (inN f fu s d a).1 = (inN f fu s e a).1) ∨ Bad Z (inN f fu s d a).2 := by
  intro fu
  induction fu with
  | zero => intro s d e a H; exact .inl ⟨H, rfl⟩
  | succ fu ih =>
    intro s d e a H
    have H2 := sim_step H
    by_cases h0 : a = 0
    · rw [inN_stop h0, inN_stop h0]; exact .inl ⟨H, rfl⟩
    · by_cases he : (dStep e).err = 0
      · rw [inN_step h0 (H2.err.trans he), inN_step h0 he]
        rcases sim_place (a := w64 (a + 2)) H2 with ⟨h1, h2⟩ | ⟨h1, h2⟩
        · rw [h2]
          rcases hf s _ _ a h1 with ⟨g1, g2⟩ | g1
          · rw [g2]; exact ih g1
          · exact .inr (g1.of (g1.stk.inN ne11).1)
        · rw [h2]
          right
          have h3 := hb s _ a h1
          exact h3.of (h3.stk.inN ne11).1
      · rw [inN_fail h0 (fun h => he (H2.err.symm.trans h)), inN_fail h0 he]
        exact .inl ⟨H2, rfl⟩
theorem sim_eachN {σ : Type} {f : σ → DrS → Int → σ × DrS} (hf : SimF Z f) (hb : ∀ s d a, Bad Z d → Bad Z (f s d a).2) {t : TbS} : ∀ {n i : Nat} {s : σ} {d e : DrS}, Sim Z d e → (Sim Z (eachN f t n i s d).2 (eachN f t n i s e).2 ∧ (eachN f t n i s d).1 = (eachN f t n i s e).1) ∨ Bad Z (eachN f t n i s d).2 := by
  intro n
  induction n with
  | zero => intro i s d e H; exact .inl ⟨H, rfl⟩
  | succ n ih =>
    intro i s d e H
    unfold eachN
    simp only
    rcases sim_place (a := w64 (t.chains + (i : Int))) H with ⟨h1, h2⟩ | ⟨h1, h2⟩
    · have ef : fuel (dPlace d (w64 (t.chains + (i : Int)))).1 = fuel (dPlace e (w64 (t.chains + (i : Int)))).1 := by unfold fuel; rw [h1.st]
      rw [h2, ef]
      rcases sim_inN hf hb (fu := fuel (dPlace e (w64 (t.chains + (i : Int)))).1) (s := s) (a := (dPlace e (w64 (t.chains + (i : Int)))).2) h1 with ⟨g1, g2⟩ | g1
      · rw [g2]; exact ih g1
      · exact .inr (g1.of (Stk.eachN ne11 g1.stk).1)
    · right
      have h3 := h1.of (h1.stk.inN (f := f) (s := s) (a := (dPlace d (w64 (t.chains + (i : Int)))).2) ne11 (fu := fuel (dPlace d (w64 (t.chains + (i : Int)))).1)).1
      exact h3.of (Stk.eachN ne11 h3.stk).1
theorem sim_growF {w : Int} : SimF Z (growF w) := by
  intro s d e a H
  unfold growF
  simp only
  rcases sim_read (a := w64 (a + 0)) H with ⟨h1, h2⟩ | ⟨h1, h2⟩
  · rw [h2]; exact .inl ⟨sim_point h1, rfl⟩
  · exact .inr (by rw [h1.stk.point ne11]; exact h1)
theorem bad_growF {w : Int} : ∀ s d a, Bad Z d → Bad Z (growF w s d a).2 := by
  intro s d a H
  unfold growF
  simp only
  rw [H.stk.read ne11]
  simp only
  rw [H.stk.point ne11]
  exact H
theorem sim_pts {to : Int} {first : List Int} : ∀ {k : Nat}, Sim Z d e → Sim Z (pts to first k d) (pts to first k e)
  | 0, H => H
  | k + 1, H => by unfold pts; exact sim_point (sim_pts H)
theorem sim_tGrow (H : Sim Z d e) {t : TbS} : (Sim Z (tGrow d t).1 (tGrow e t).1 ∧ (tGrow d t).2 = (tGrow e t).2) ∨ Bad Z (tGrow d t).1 := by
  unfold tGrow
  simp only
  rcases sim_alloc (n := w64 (2 * t.wide)) H with ⟨h1, h2⟩ | h1
  · rw [h2]
    unfold tEach
    rcases sim_eachN (f := growF (w64 (2 * t.wide))) sim_growF bad_growF (t := t) (n := t.wide.toNat) (i := 0) (s := List.replicate (w64 (2 * t.wide)).toNat 0) h1 with ⟨g1, g2⟩ | g1
    · rw [g2]
      rcases sim_free (n := t.chains) (sim_pts (to := (dAlloc e (w64 (2 * t.wide))).2) (first := (eachN (growF (w64 (2 * t.wide))) t t.wide.toNat 0 (List.replicate (w64 (2 * t.wide)).toNat 0) (dAlloc e (w64 (2 * t.wide))).1).1) (k := (w64 (2 * t.wide)).toNat) g1) with k1 | k1
      · exact .inl ⟨sim_point (sim_point k1), rfl⟩
      · right
        rw [k1.stk.point ne11, k1.stk.point ne11]
        exact k1
    · right
      rw [Stk.pts ne11 g1.stk, g1.stk.free ne11, g1.stk.point ne11, g1.stk.point ne11]
      exact g1
  · right
    have hg := h1.of ((h1.stk.grow ne11 (t := t)) |> fun h => h1.stk)
    have hS := Stk.eachN (f := growF (w64 (2 * t.wide))) (t := t) (n := t.wide.toNat) (i := 0) (s := List.replicate (w64 (2 * t.wide)).toNat 0) ne11 h1.stk
    unfold tEach
    rw [Stk.pts ne11 hS.1, hS.1.free ne11, hS.1.point ne11, hS.1.point ne11]
    exact h1.of hS.1
theorem sim_tMade (H : Sim Z d e) : (Sim Z (tMade d root).1 (tMade e root).1 ∧ (tMade d root).2 = (tMade e root).2) ∨ Bad Z (tMade d root).1 := by
  unfold tMade
  simp only
  rcases sim_alloc (n := 3) H with ⟨h1, h2⟩ | h1
  · rw [h2]
    rcases sim_alloc (n := 2) h1 with ⟨g1, g2⟩ | g1
    · rw [g2]
      exact .inl ⟨sim_point (sim_point (sim_point (sim_point (sim_point (sim_point g1))))), rfl⟩
    · right
      have S1 := g1.stk
      rw [S1.point ne11, S1.point ne11, S1.point ne11, S1.point ne11, S1.point ne11, S1.point ne11]
      exact g1
  · right
    have S1 := h1.stk
    rw [S1.alloc ne11]
    simp only
    rw [S1.point ne11, S1.point ne11, S1.point ne11, S1.point ne11, S1.point ne11, S1.point ne11]
    exact h1
theorem sim_tAt (H : Sim Z d e) : (Sim Z (tAt d root).1 (tAt e root).1 ∧ (tAt d root).2 = (tAt e root).2) ∨ Bad Z (tAt d root).1 := by
  unfold tAt
  rcases sim_open (root := root) H with ⟨h1, h2⟩ | h1
  · rw [h2]
    by_cases h0 : (tOpen e root).1.err = 0 ∧ (tOpen e root).2.head = 0
    · rw [if_pos ⟨h1.err.trans h0.1, h0.2⟩, if_pos h0]
      exact sim_tMade h1
    · rw [if_neg (fun h => h0 ⟨h1.err.symm.trans h.1, h.2⟩), if_neg h0]
      exact .inl ⟨h1, h2⟩
  · right
    rw [if_neg (by rw [h1.1]; rintro ⟨h, _⟩; exact absurd h (by decide))]
    exact h1
theorem sim_putGrow (H : Sim Z d e) {t : TbS} {l : Int} : (Sim Z (putGrow d t l k).1 (putGrow e t l k).1 ∧ (putGrow d t l k).2 = (putGrow e t l k).2) ∨ Bad Z (putGrow d t l k).1 := by
  unfold putGrow
  by_cases h0 : e.err = 0 ∧ wU t.wide ≤ t.keys ∧ t.wide < 16
  · rw [if_pos ⟨H.err.trans h0.1, h0.2⟩, if_pos h0]
    rcases sim_tGrow (t := t) H with ⟨h1, h2⟩ | h1
    · rw [h2]
      rcases sim_tSeek (t := (tGrow e t).2) (k := k) h1 with ⟨g1, g2⟩ | g1
      · rw [g2]; exact .inl ⟨g1, rfl⟩
      · exact .inr g1
    · exact .inr (h1.of (h1.stk.tSeek ne11).1)
  · rw [if_neg (fun h => h0 ⟨H.err.symm.trans h.1, h.2⟩), if_neg h0]
    exact .inl ⟨H, rfl⟩
theorem sim_putEnd (H : Sim Z d e) {t : TbS} {l : Int} : Sim Z (putEnd d t l k x) (putEnd e t l k x) ∨ Bad Z (putEnd d t l k x) := by
  unfold putEnd
  rcases sim_alloc (n := 3) H with ⟨h1, h2⟩ | h1
  · rw [h2]
    exact .inl (sim_write (sim_point (sim_point (sim_write (sim_write h1)))))
  · right
    rw [h1.stk.write ne11, h1.stk.write ne11, h1.stk.point ne11, h1.stk.point ne11, h1.stk.write ne11]
    exact h1
theorem sim_put1 (H : Sim Z d e) : (Sim Z (tPut1 root k x d).1 (tPut1 root k x e).1 ∧ (tPut1 root k x d).2 = (tPut1 root k x e).2) ∨ Bad Z (tPut1 root k x d).1 := by
  unfold tPut1
  rcases sim_tAt (root := root) H with ⟨h1, h2⟩ | h1
  · rw [h2]
    by_cases h0 : (tAt e root).1.err = 0
    · rw [if_pos (h1.err.trans h0), if_pos h0]
      generalize (tAt d root).1 = d1 at h1
      generalize (tAt e root).1 = e1 at h1
      generalize (tAt e root).2 = t
      rcases sim_tSeek (t := t) (k := k) h1 with ⟨g1, g2⟩ | g1
      · rw [g2]
        generalize (tSeek e1 t k).2 = lk2
        split
        · rcases sim_putGrow (t := t) (l := lk2.1) (k := k) g1 with ⟨k1, k2⟩ | k1
          · rw [k2]
            rcases sim_putEnd (t := (putGrow (tSeek e1 t k).1 t lk2.1 k).2.1) (l := (putGrow (tSeek e1 t k).1 t lk2.1 k).2.2) (k := k) (x := x) k1 with m1 | m1
            · exact .inl ⟨m1, rfl⟩
            · exact .inr m1
          · right
            simp only
            rw [k1.stk.putEnd ne11]
            exact k1
        · exact .inl ⟨sim_write g1, rfl⟩
      · right
        split
        · have hp : putGrow (tSeek d1 t k).1 t (tSeek d1 t k).2.1 k = ((tSeek d1 t k).1, t, (tSeek d1 t k).2.1) := by
            unfold putGrow
            rw [if_neg (by rw [g1.1]; rintro ⟨h, _⟩; exact absurd h (by decide))]
          rw [hp]
          simp only
          rw [g1.stk.putEnd ne11]
          exact g1
        · show Bad Z (dWrite _ _ _)
          rw [g1.stk.write ne11]
          exact g1
    · rw [if_neg (fun h => h0 (h1.err.symm.trans h)), if_neg h0]
      exact .inl ⟨h1, rfl⟩
  · right
    rw [if_neg (by rw [h1.1]; decide)]
    exact h1
theorem sim_get1 (H : Sim Z d e) : (Sim Z (tGet1 root k d).1 (tGet1 root k e).1 ∧ (tGet1 root k d).2 = (tGet1 root k e).2) ∨ Bad Z (tGet1 root k d).1 := by
  unfold tGet1
  rcases sim_open (root := root) H with ⟨h1, h2⟩ | h1
  · rw [h2]
    by_cases h0 : (tOpen e root).1.err = 0 ∧ (tOpen e root).2.head ≠ 0
    · rw [if_pos ⟨h1.err.trans h0.1, h0.2⟩, if_pos h0]
      generalize (tOpen d root).1 = d1 at h1
      generalize (tOpen e root).1 = e1 at h1
      generalize (tOpen e root).2 = t
      rcases sim_tSeek (t := t) (k := k) h1 with ⟨g1, g2⟩ | g1
      · rw [g2]
        generalize (tSeek e1 t k).2 = lk2
        split
        · exact .inl ⟨g1, rfl⟩
        · rcases sim_read (a := w64 (lk2.2 + 1)) g1 with ⟨k1, k2⟩ | ⟨k1, k2⟩
          · rw [k2]; exact .inl ⟨k1, rfl⟩
          · exact .inr k1
      · right
        split
        · exact g1
        · show Bad Z (dRead _ _).1
          rw [g1.stk.read ne11]
          exact g1
    · rw [if_neg (fun h => h0 ⟨h1.err.symm.trans h.1, h.2⟩), if_neg h0]
      exact .inl ⟨h1, rfl⟩
  · right
    rw [if_neg (by rw [h1.1]; rintro ⟨h, _⟩; exact absurd h (by decide))]
    exact h1
theorem sim_cutOut (H : Sim Z d e) {t : TbS} {l a : Int} : Sim Z (cutOut d t l a) (cutOut e t l a) ∨ Bad Z (cutOut d t l a) := by
  unfold cutOut
  rcases sim_read (a := w64 (a + 2)) H with ⟨h1, h2⟩ | ⟨h1, h2⟩
  · rw [h2]
    exact sim_free (sim_write (sim_write h1))
  · right
    rw [h1.stk.write ne11, h1.stk.write ne11, h1.stk.free ne11]
    exact h1
theorem sim_del1 (H : Sim Z d e) : (Sim Z (tDel1 root k d).1 (tDel1 root k e).1 ∧ (tDel1 root k d).2 = (tDel1 root k e).2) ∨ Bad Z (tDel1 root k d).1 := by
  unfold tDel1
  rcases sim_open (root := root) H with ⟨h1, h2⟩ | h1
  · rw [h2]
    by_cases h0 : (tOpen e root).1.err = 0 ∧ (tOpen e root).2.head ≠ 0
    · rw [if_pos ⟨h1.err.trans h0.1, h0.2⟩, if_pos h0]
      generalize (tOpen d root).1 = d1 at h1
      generalize (tOpen e root).1 = e1 at h1
      generalize (tOpen e root).2 = t
      rcases sim_tSeek (t := t) (k := k) h1 with ⟨g1, g2⟩ | g1
      · rw [g2]
        generalize (tSeek e1 t k).2 = lk2
        split
        · exact .inl ⟨g1, rfl⟩
        · rcases sim_cutOut (t := t) (l := lk2.1) (a := lk2.2) g1 with k1 | k1
          · exact .inl ⟨k1, rfl⟩
          · exact .inr k1
      · right
        split
        · exact g1
        · show Bad Z (cutOut _ _ _ _)
          unfold cutOut
          rw [g1.stk.read ne11]
          simp only
          rw [g1.stk.write ne11, g1.stk.write ne11, g1.stk.free ne11]
          exact g1
    · rw [if_neg (fun h => h0 ⟨h1.err.symm.trans h.1, h.2⟩), if_neg h0]
      exact .inl ⟨h1, rfl⟩
  · right
    rw [if_neg (by rw [h1.1]; rintro ⟨h, _⟩; exact absurd h (by decide))]
    exact h1

/-! ### a call on a view that knows less -/
variable {X : Cx} {w : List Int} {r r' : Int} {o o2 : Option TD} {L L2 : List TPair} {c : TCall} {S0 : List Bk}
theorem dEnd_ok2 (C : Clean s) (he : d.err = 0) (up : d.v.l.up = []) (nod : (d.v.l.r.c.map (·.place)).Nodup) (pos : ∀ q ∈ d.v.l.r.c, 1 ≤ q.place ∧ q.place < 256) (few : d.v.l.r.c.length ≤ 96) : dEnd s d = (outV s d.v.l.r.c d.v.l.r.f, 0) := by
  have ec : d.v.l.cells = d.v.l.r.c := by unfold LvS.cells; rw [up]; rfl
  have ef : d.v.l.frees = d.v.l.r.f := by unfold LvS.frees freesR; rw [up]; simp
  unfold dEnd
  rw [if_neg (by rw [he]; decide), if_pos he, ec, ef]
  have e : vTake s d.v.l.r.c = (outV s d.v.l.r.c [], 0) := by
    unfold vTake
    rw [if_pos (List.all_eq_true.2 fun q hq => by have := pos q hq; unfold isV; rw [C.size]; simp; omega)]
    unfold lTake
    rw [C.l, lPuts_ok (by simpa using nod) (fun q hq => pos q hq) (by simpa using few)]
    simp
  rw [e]
  simp only [if_true]
  rw [freeAll_eq]
  simp [VwS.log]
theorem end_part (Cs : Clean s) (Ct : Clean t) (hs : s.k = Z.P) (H : Sim Z d e ∨ Bad Z d) (hE : e.err = 4 ∨ ∃ h' m f, Dr X h' 96 m f e ∧ f.length ≤ 1) :
    (∃ nd, dEnd s d = (⟨s.size, s.k, s.l, nd⟩, 11) ∧ 1 ≤ nd ∧ nd < 256 ∧ lookC Z.P nd = none ∧ lookC Z.Q nd ≠ none) ∨ (Sim Z d e ∧ ∃ cs f er, er ≠ 11 ∧ (cs.length ≤ 96 ∧ f.length ≤ 1) ∧ (∀ q ∈ cs, X.T q.place) ∧ dEnd s d = (outV s cs f, er) ∧ dEnd t e = (outV t cs f, er)) := by
  rcases H with H | H
  · right
    refine ⟨H, ?_⟩
    rcases hE with h4 | ⟨h', m, f, D, hf⟩
    · refine ⟨[], [], 4, by decide, ⟨by simp, by simp⟩, by simp, ?_, ?_⟩
      · rw [dEnd_full (H.err.trans h4), Cs.out]
      · rw [dEnd_full h4, Ct.out]
    · have V := D.v
      have el := H.v.l
      have pos : ∀ q ∈ e.v.l.r.c, 1 ≤ q.place ∧ q.place < 256 := fun q hq => (V.pos q hq).le
      refine ⟨e.v.l.r.c, e.v.l.r.f, 0, by decide, ⟨V.few, by rw [V.rf]; exact hf⟩, V.pos, ?_, ?_⟩
      · rw [dEnd_ok2 Cs (H.err.trans D.err) (by rw [el]; exact V.up) (by rw [el]; exact V.nod) (by rw [el]; exact pos) (by rw [el]; exact V.few), el]
      · exact dEnd_ok2 Ct D.err V.up V.nod pos V.few
  · left
    obtain ⟨h1, h2, h3, h4, h5⟩ := H
    refine ⟨d.v.need, ?_, h2, h3, h4, h5⟩
    unfold dEnd
    rw [if_pos h1]
    unfold vRead
    rw [if_pos (by unfold isV; rw [Cs.size]; simp; omega), Cs.l]
    simp only [lookR, lookC]
    rw [hs, h4]

theorem call_part (I : InvS S0 w r r' o o2 L L2) (hr : 6 ≤ r ∧ r < 14) (hr' : 6 ≤ r' ∧ r' < 14) (hne : r ≠ r') (hc : 0 ≤ c.k) (Q : List TCell) (Cs : Clean s) (Ct : Clean t) (ht : t.k = Q)
    (hsub : ∀ a x, lookC s.k a = some x → lookC Q a = some x) (hrd : ∀ a, Cx.T ⟨r', obB o2, Q, hOf w⟩ a → lookC Q a = some (hOf w a)) :
    (∃ nd it, lCall s r c = (⟨s.size, s.k, s.l, nd⟩, it, 11) ∧ 1 ≤ nd ∧ nd < 256 ∧ lookC s.k nd = none ∧ lookC Q nd ≠ none) ∨
    (∃ cs f it er, er ≠ 11 ∧ (cs.length ≤ 96 ∧ f.length ≤ 1) ∧ (∀ q ∈ cs, Cx.T ⟨r', obB o2, Q, hOf w⟩ q.place) ∧ lCall s r c = (outV s cs f, it, er) ∧ lCall t r c = (outV t cs f, it, er)) := by
  have D : Dr ⟨r', obB o2, Q, hOf w⟩ (hOf w) 0 0 [] (dr0 t) := Dr.init Ct ht rfl (fun a ta => by rw [ht]; exact hrd a ta)
  have hk := tab_keys I.t1
  have hN := rows_few I.l1 hk I.k1
  have hrr := And.intro hr.1 (And.intro hr.2 hne)
  have H0 : Sim ⟨s.k, Q, hsub⟩ (dr0 s) (dr0 t) := by
    refine ⟨rfl, rfl, ?_⟩
    show SimV _ (dOf s) (dOf t)
    rw [dOf_clean Cs, dOf_clean Ct]
    exact ⟨rfl, rfl, rfl, ht, Nat.le_refl _⟩
  by_cases h4 : cWhich c = 4
  · have hE : (tPut1 r (cKey c) (cVal c) (dr0 t)).1.err = 4 ∨ ∃ h' m f, Dr ⟨r', obB o2, Q, hOf w⟩ h' 96 m f (tPut1 r (cKey c) (cVal c) (dr0 t)).1 ∧ f.length ≤ 1 := by
      rcases put1_ok (root := r) (k := cKey c) (x := cVal c) D hr' I.ar I.t1 hrr hN with ⟨e4, _⟩ | ⟨h', t', f', R', D', _, _, z1, z2, _⟩
      · exact .inl e4
      · exact .inr ⟨h', _, f', D', by rw [← z1]; simpa using z2⟩
    have HS := sim_put1 (root := r) (k := cKey c) (x := cVal c) H0
    have HS2 : Sim ⟨s.k, Q, hsub⟩ (tPut1 r (cKey c) (cVal c) (dr0 s)).1 (tPut1 r (cKey c) (cVal c) (dr0 t)).1 ∨ Bad ⟨s.k, Q, hsub⟩ (tPut1 r (cKey c) (cVal c) (dr0 s)).1 := by
      rcases HS with h | h
      · exact .inl h.1
      · exact .inr h
    have el : ∀ s : VwS, lCall s r c = ((dEnd s (tPut1 r (cKey c) (cVal c) (dr0 s)).1).1, itemT ((tPut1 r (cKey c) (cVal c) (dr0 s)).2 && decide ((dEnd s (tPut1 r (cKey c) (cVal c) (dr0 s)).1).2 = 0)), (dEnd s (tPut1 r (cKey c) (cVal c) (dr0 s)).1).2) := fun s => by
      unfold lCall tPut
      rw [if_pos h4, badRoot_no hr]
      simp
    rw [el s, el t]
    rcases end_part Cs Ct rfl HS2 hE with ⟨nd, g1, g2⟩ | ⟨g0, cs, f, er, g1, g2, g3, g4, g5⟩
    · rw [g1]; exact .inl ⟨nd, _, rfl, g2⟩
    · rcases HS with h | h
      · rw [g4, g5, h.2]; exact .inr ⟨cs, f, _, er, g1, g2, g3, rfl, rfl⟩
      · rcases hE with hE | ⟨_, _, _, hE, _⟩
        · have := g0.err.trans hE; rw [h.1] at this; exact absurd this (by decide)
        · have := g0.err.trans hE.err; rw [h.1] at this; exact absurd this (by decide)
  · by_cases h5 : cWhich c = 5
    · have hE : (tGet1 r (cKey c) (dr0 t)).1.err = 4 ∨ ∃ h' m f, Dr ⟨r', obB o2, Q, hOf w⟩ h' 96 m f (tGet1 r (cKey c) (dr0 t)).1 ∧ f.length ≤ 1 := by
        obtain ⟨D', _⟩ := get1_ok (root := r) (k := cKey c) D hr' I.ar I.t1 hrr hN
        exact .inr ⟨_, _, _, D'.mono (by omega) (Nat.le_refl _), by simp⟩
      have HS := sim_get1 (root := r) (k := cKey c) H0
      have HS2 : Sim ⟨s.k, Q, hsub⟩ (tGet1 r (cKey c) (dr0 s)).1 (tGet1 r (cKey c) (dr0 t)).1 ∨ Bad ⟨s.k, Q, hsub⟩ (tGet1 r (cKey c) (dr0 s)).1 := by
        rcases HS with h | h
        · exact .inl h.1
        · exact .inr h
      have el : ∀ s : VwS, lCall s r c = (if (dEnd s (tGet1 r (cKey c) (dr0 s)).1).2 = 0 then ((dEnd s (tGet1 r (cKey c) (dr0 s)).1).1, ⟨if (tGet1 r (cKey c) (dr0 s)).2.2 = true then 1 else 3, (tGet1 r (cKey c) (dr0 s)).2.1⟩, 0) else ((dEnd s (tGet1 r (cKey c) (dr0 s)).1).1, ⟨3, 0⟩, (dEnd s (tGet1 r (cKey c) (dr0 s)).1).2)) := fun s => by
        unfold lCall tGet
        rw [if_neg h4, if_pos h5, badRoot_no hr]
        simp only [Bool.false_eq_true, if_false]
        split <;> simp
      rw [el s, el t]
      rcases end_part Cs Ct rfl HS2 hE with ⟨nd, g1, g2⟩ | ⟨g0, cs, f, er, g1, g2, g3, g4, g5⟩
      · rw [g1, if_neg (show ¬ (11 : Int) = 0 by decide)]; exact .inl ⟨nd, _, rfl, g2⟩
      · rcases HS with h | h
        · rw [g4, g5, h.2]
          by_cases he : er = 0
          · rw [if_pos he, if_pos he, he]; exact .inr ⟨cs, f, _, 0, by decide, g2, g3, rfl, rfl⟩
          · rw [if_neg he, if_neg he]; exact .inr ⟨cs, f, _, er, g1, g2, g3, rfl, rfl⟩
        · rcases hE with hE | ⟨_, _, _, hE, _⟩
          · have := g0.err.trans hE; rw [h.1] at this; exact absurd this (by decide)
          · have := g0.err.trans hE.err; rw [h.1] at this; exact absurd this (by decide)
    · have hE : (tDel1 r (cKey c) (dr0 t)).1.err = 4 ∨ ∃ h' m f, Dr ⟨r', obB o2, Q, hOf w⟩ h' 96 m f (tDel1 r (cKey c) (dr0 t)).1 ∧ f.length ≤ 1 := by
        obtain ⟨h', o', f', R', D', _, _, z1, z2, _⟩ := del1_ok (root := r) (k := cKey c) D hr' I.ar I.t1 hrr hN
        exact .inr ⟨_, _, _, D', by rw [← z1]; simpa using z2⟩
      have HS := sim_del1 (root := r) (k := cKey c) H0
      have HS2 : Sim ⟨s.k, Q, hsub⟩ (tDel1 r (cKey c) (dr0 s)).1 (tDel1 r (cKey c) (dr0 t)).1 ∨ Bad ⟨s.k, Q, hsub⟩ (tDel1 r (cKey c) (dr0 s)).1 := by
        rcases HS with h | h
        · exact .inl h.1
        · exact .inr h
      have el : ∀ s : VwS, lCall s r c = ((dEnd s (tDel1 r (cKey c) (dr0 s)).1).1, itemT ((tDel1 r (cKey c) (dr0 s)).2 && decide ((dEnd s (tDel1 r (cKey c) (dr0 s)).1).2 = 0)), (dEnd s (tDel1 r (cKey c) (dr0 s)).1).2) := fun s => by
        unfold lCall tDel
        rw [if_neg h4, if_neg h5, badRoot_no hr]
        simp
      rw [el s, el t]
      rcases end_part Cs Ct rfl HS2 hE with ⟨nd, g1, g2⟩ | ⟨g0, cs, f, er, g1, g2, g3, g4, g5⟩
      · rw [g1]; exact .inl ⟨nd, _, rfl, g2⟩
      · rcases HS with h | h
        · rw [g4, g5, h.2]; exact .inr ⟨cs, f, _, er, g1, g2, g3, rfl, rfl⟩
        · rcases hE with hE | ⟨_, _, _, hE, _⟩
          · have := g0.err.trans hE; rw [h.1] at this; exact absurd this (by decide)
          · have := g0.err.trans hE.err; rw [h.1] at this; exact absurd this (by decide)
end
end Go.Proofs.YtokbiojkpldfeaaGreat.S
