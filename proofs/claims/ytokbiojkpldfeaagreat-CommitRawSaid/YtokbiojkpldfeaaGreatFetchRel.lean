/-
  CHAPTER 23: the program's fetch and the document's go together.
-/
import Derived.Test.YtokbiojkpldfeaaGreatRef23
namespace Go.Proofs.YtokbiojkpldfeaaGreat.S
open Go Go.Proofs
set_option linter.unusedVariables false
set_option linter.unusedSimpArgs false

/-- two machines that end alike; the spins may differ once they have ended -/
structure PatRel (p q : Pat) : Prop where
  me : q.me = p.me
  fin : q.fin = p.fin
  by_ : q.by_ = p.by_
  err : q.err = p.err
  going : p.fin = 0 → q.spins = p.spins ∧ p.by_ = -1 ∧ p.err = 0 ∧ 0 ≤ p.spins ∧ p.spins ≤ 4

structure FetchRel (f g : FetchS) : Prop where
  pat : PatRel f.pat g.pat
  place : g.place = f.place
  stripe : g.stripe = f.stripe
  stamp : g.stamp = f.stamp
  state : g.state = f.state
  lock : g.lock = f.lock
  word : g.word = f.word

theorem PatRel.new (me sp : Int) : PatRel (newPat me sp) (newPat me sp) := by
  have := held_le (n := sp) (show (0 : Int) ≤ 4 by omega)
  exact ⟨rfl, rfl, rfl, rfl, fun _ => ⟨rfl, rfl, rfl, this.1, this.2⟩⟩
theorem PatRel.failed {p q : Pat} (h : PatRel p q) (hf : p.fin = 0) {er : Int} (he : er ≠ 0) : PatRel (p.stop 4 er (-1)) (q.rfail er) := by
  have g := h.going hf
  unfold Pat.rfail Pat.stop
  rw [if_neg he]
  exact ⟨h.me, rfl, by simp only; rw [h.by_]; exact g.2.1, rfl, fun h => by simp at h⟩
theorem PatRel.ends {p q : Pat} (h : PatRel p q) (hf : p.fin = 0) {e : Int} (he : e ≠ 0) : PatRel (p.stop e 0 (-1)) { q with fin := e } := by
  have g := h.going hf
  exact ⟨h.me, rfl, by simp only [Pat.stop]; rw [h.by_]; exact g.2.1, by simp only [Pat.stop]; rw [h.err]; exact g.2.2.1, fun h => absurd h he⟩
/-- a lock that is held: it looks again, or ends in conflict -/
def Pat.meets (p : Pat) (o : Int) : Pat := if (p.waits o).2 = true then (p.waits o).1 else (p.waits o).1.stop 5 0 o
theorem PatRel.meets {p q : Pat} (h : PatRel p q) (hf : p.fin = 0) (o : Int) : PatRel (p.meets o) (q.rheld o).1 := by
  have g := h.going hf
  have w : IntKind.wrap .i64 (p.spins - 1) = p.spins - 1 := wi64 (by omega) (by omega)
  unfold Pat.meets Pat.waits Pat.rheld
  rw [h.me, g.1]
  by_cases c : o > p.me
  · simp only [if_pos c, if_true]; exact h
  · simp only [if_neg c]
    by_cases z : p.spins > 0
    · have z2 : p.spins - 1 ≥ 0 := by omega
      simp only [if_pos z, w, z2, decide_true, if_true]
      exact ⟨rfl, h.fin, h.by_, h.err, fun _ => ⟨rfl, g.2.1, g.2.2.1, by simp only; omega, by simp only; omega⟩⟩
    · have z2 : ¬ p.spins - 1 ≥ 0 := by omega
      simp only [if_neg z, w, z2, decide_false]
      exact ⟨rfl, rfl, rfl, by simp only [Pat.stop, Bool.false_eq_true, if_false]; rw [h.err]; exact g.2.2.1, fun h => by simp [Pat.stop] at h⟩

theorem FetchRel.new (me pl st sp sm : Int) : FetchRel (fetchNew me pl st sp sm) (fetchNew me pl st sp sm) := ⟨PatRel.new _ _, rfl, rfl, rfl, rfl, rfl, rfl⟩

theorem FetchRel.tell {f g : FetchS} (h : FetchRel f g) (a : TAns) : FetchRel (fetchTell f a) (rfetchTell g a) := by
  cases f with | mk fp f1 f2 f3 f4 f5 f6 =>
  cases g with | mk gp g1 g2 g3 g4 g5 g6 =>
  cases h with | mk hp h1 h2 h3 h4 h5 h6 =>
  dsimp only at hp h1 h2 h3 h4 h5 h6
  subst h1; subst h2; subst h3; subst h4; subst h5; subst h6
  unfold fetchTell rfetchTell
  rw [hp.fin]
  by_cases hf : fp.fin = 0
  · by_cases he : a.err = 0
    · have e : fp.stopped a.err = fp := by unfold Pat.stopped; rw [if_neg (fun g => g.2 he)]
      rw [e, if_pos hf, if_pos hf, if_pos he]
      by_cases c1 : g4 = 1
      · rw [if_pos c1, if_pos c1]; exact ⟨hp, rfl, rfl, rfl, rfl, rfl, rfl⟩
      · rw [if_neg c1, if_neg c1]
        by_cases c2 : g4 = 2 ∧ a.lock = g5
        · rw [if_pos c2, if_pos c2]; exact ⟨hp.ends hf (by decide), rfl, rfl, rfl, rfl, rfl, rfl⟩
        · rw [if_neg c2, if_neg c2]
          unfold fetchFound rfetchFound
          by_cases c3 : a.lock.held = true
          · rw [if_pos c3, if_pos c3]
            have m := hp.meets hf a.lock.owner
            unfold Pat.meets at m
            split <;> rename_i c4
            · rw [if_pos c4] at m; exact ⟨m, rfl, rfl, rfl, rfl, rfl, rfl⟩
            · rw [if_neg c4] at m; exact ⟨m, rfl, rfl, rfl, rfl, rfl, rfl⟩
          · rw [if_neg c3, if_neg c3]
            split
            · exact ⟨hp.ends hf (by decide), rfl, rfl, rfl, rfl, rfl, rfl⟩
            · exact ⟨hp, rfl, rfl, rfl, rfl, rfl, rfl⟩
    · have e : fp.stopped a.err = fp.stop 4 a.err (-1) := by unfold Pat.stopped; rw [if_pos ⟨hf, he⟩]
      rw [e, if_neg (by simp [Pat.stop]), if_pos hf, if_neg he]
      exact ⟨hp.failed hf he, rfl, rfl, rfl, rfl, rfl, rfl⟩
  · have e : fp.stopped a.err = fp := by unfold Pat.stopped; rw [if_neg (fun g => hf g.1)]
    rw [e, if_neg hf, if_neg hf]
    exact ⟨hp, rfl, rfl, rfl, rfl, rfl, rfl⟩

end Go.Proofs.YtokbiojkpldfeaaGreat.S
