/-
  CHAPTER 24, THE PLAIN LAW: an extend on a memory that nobody touches.
-/
import Derived.Test.YtaghnmllaghcbaaExtRel
import Derived.Test.YtaghnmllaghcbaaMem
import Derived.Test.YtaghnmllaghcbaaReads
namespace Go.Proofs.Ytaghnmllaghcbaa.S
open Go Go.Proofs
set_option linter.unusedVariables false
set_option linter.unusedSimpArgs false

theorem memDo_store' {m : MemS} {i x y : Int} {u l : TLock} (hi : inLen i m.l.length = true) (hl : isLock l = true) : (memDo m ⟨5, i, x, y, u, l⟩).1.l = m.l.set i.toNat l ∧ (memDo m ⟨5, i, x, y, u, l⟩).1.n = m.n := by
  have e : storeRes m.l i l = (m.l.set i.toNat l, 0) := by unfold storeRes mayErr; simp [hi, hl]
  unfold memDo
  rw [memStep_5 rfl, e]
  exact ⟨rfl, rfl⟩
theorem memDo_load' {m : MemS} {i x y : Int} {u l z : TLock} (h0 : 0 ≤ i) (hi : m.l[i.toNat]? = some z) : (memDo m ⟨3, i, x, y, u, l⟩).2 = ⟨0, z, false, 0⟩ ∧ (memDo m ⟨3, i, x, y, u, l⟩).1.l = m.l ∧ (memDo m ⟨3, i, x, y, u, l⟩).1.n = m.n := by
  obtain ⟨hlt, _⟩ := List.getElem?_eq_some_iff.1 hi
  have e : loadRes m.l i = (z, 0) := by unfold loadRes inLen; simp [h0, hi]; omega
  unfold memDo
  rw [memStep_3 rfl, e]
  exact ⟨rfl, rfl, rfl⟩
theorem memDo_clock' {m : MemS} {i x y : Int} {u l : TLock} : (memDo m ⟨6, i, x, y, u, l⟩).2 = ⟨m.n, zeroLock, false, 0⟩ ∧ (memDo m ⟨6, i, x, y, u, l⟩).1.l = m.l ∧ (memDo m ⟨6, i, x, y, u, l⟩).1.n = m.n := by
  unfold memDo
  rw [memStep_6 rfl]
  exact ⟨rfl, rfl, rfl⟩

structure StandInv (ls : List TLock) (n0 : Int) (s : List TSeen) (n : Nat) (x : ExtS) : Prop where
  seen : x.seen = s
  me : x.pat.me = 1
  rest : (x.pat.fin = 0 ∧ x.loaded = false ∧ x.pos = 0 ∧ n = 0 ∧ x.pat.spins = 3) ∨
    (x.pat.fin = 0 ∧ x.loaded = true ∧ x.stamp = n0 ∧ (∃ q, s[x.pos]? = some q ∧ stands (s.take x.pos) ls = true ∧
      ((n = x.pos + 1 ∧ x.pat.spins = 3) ∨ ∃ l, ls[q.stripe.toNat]? = some l ∧ l.held = true ∧ (l.owner > 1 ∨ (0 ≤ x.pat.spins ∧ x.pat.spins ≤ 3 ∧ (n : Int) + x.pat.spins = x.pos + 4))))) ∨
    (x.pat.fin = 2 ∧ n = s.length + 1 ∧ stands s ls = true ∧ x.stamp = n0) ∨
    (x.pat.fin = 5 ∧ stands s ls = false)

theorem stands_snoc (xs : List TSeen) (q : TSeen) (ls : List TLock) : stands (xs ++ [q]) ls = (stands xs ls && standOne ls q) := by unfold stands; simp
theorem stands_at {s : List TSeen} {ls : List TLock} {k : Nat} {q : TSeen} (h : s[k]? = some q) (hq : standOne ls q = false) : stands s ls = false := by
  unfold stands
  rw [List.all_eq_false]
  exact ⟨q, List.mem_of_getElem? h, by rw [hq]; decide⟩

theorem StandInv.new (ls : List TLock) (n0 : Int) (s : List TSeen) : StandInv ls n0 s 0 (extNew 1 3 s) := ⟨rfl, rfl, .inl ⟨rfl, rfl, rfl, rfl, rfl⟩⟩

theorem StandInv.ok {ls : List TLock} {n0 : Int} {s : List TSeen} {n : Nat} {x : ExtS} (h : StandInv ls n0 s n x) : ExtOk x := fun h1 h2 => by
  rcases h.rest with g | g | g | g
  · rw [g.2.1] at h2; cases h2
  · obtain ⟨q, hq, _⟩ := g.2.2.2
    rw [h.seen]
    exact (List.getElem?_eq_some_iff.1 hq).1
  · omega
  · omega

theorem StandInv.done {ls : List TLock} {n0 : Int} {s : List TSeen} {p : Pat} {k : Nat} {n : Nat} (hm : p.me = 1) (hf : p.fin = 0) (hs : p.spins = 3) (hk : k ≤ s.length) (hst : stands (s.take k) ls = true) (hn : n = k + 1) : StandInv ls n0 s n (extDone ⟨p, s, true, k, n0⟩) := by
  unfold extDone
  dsimp only
  split <;> rename_i h
  · exact ⟨rfl, hm, .inr (.inr (.inl ⟨rfl, by omega, by rw [h, List.take_length] at hst; exact hst, rfl⟩))⟩
  · have hlt : k < s.length := by omega
    exact ⟨rfl, hm, .inr (.inl ⟨hf, rfl, rfl, s[k], List.getElem?_eq_getElem hlt, hst, .inl ⟨hn, hs⟩⟩)⟩

theorem StandInv.step {ls : List TLock} {n0 : Int} {s : List TSeen} {n : Nat} {x : ExtS} {m : MemS} (hr : ∀ q ∈ s, 0 ≤ q.stripe ∧ q.stripe.toNat < ls.length) (h : StandInv ls n0 s n x) (hf : x.pat.fin = 0) (hl : m.l = ls) (hn : m.n = n0) :
    StandInv ls n0 s (n + 1) (extTell x (memDo m (extNext x).1).2) ∧ (memDo m (extNext x).1).1.l = ls ∧ (memDo m (extNext x).1).1.n = n0 := by
  cases x with | mk p s' l k t =>
  obtain ⟨h1, h2, h3⟩ := h
  dsimp only at h1 h2 h3 hf
  subst h1
  have e0 : p.stopped 0 = p := by unfold Pat.stopped; rw [if_neg (by simp)]
  unfold extNext
  dsimp only
  rw [if_pos hf]
  rcases h3 with ⟨_, rfl, rfl, rfl, hsp⟩ | ⟨_, rfl, rfl, q, hq, hst, hw⟩ | g | g
  · rw [if_neg (by decide)]
    obtain ⟨e1, e2, e3⟩ := memDo_clock' (m := m) (i := 0) (x := 0) (y := 0) (u := zeroLock) (l := zeroLock)
    refine ⟨?_, by rw [e2, hl], by rw [e3, hn]⟩
    rw [e1]
    unfold extTell
    dsimp only
    rw [e0, if_pos hf, if_pos rfl, hn]
    exact StandInv.done h2 hf hsp (Nat.zero_le _) (by simp [stands]) rfl
  · rw [if_pos rfl]
    have hkl := (List.getElem?_eq_some_iff.1 hq).1
    have hg : s'.getD k ⟨0, 0⟩ = q := by simp [hq]
    obtain ⟨r1, r2⟩ := hr q (List.mem_of_getElem? hq)
    obtain ⟨z, hz⟩ : ∃ z, ls[q.stripe.toNat]? = some z := ⟨_, List.getElem?_eq_getElem r2⟩
    rw [hg]
    obtain ⟨e1, e2, e3⟩ := memDo_load' (m := m) (i := q.stripe) (x := 0) (y := 0) (u := zeroLock) (l := zeroLock) r1 (by rw [hl]; exact hz)
    refine ⟨?_, by rw [e2, hl], by rw [e3, hn]⟩
    rw [e1]
    unfold extTell
    dsimp only
    rw [e0, if_pos hf, if_neg (by decide)]
    have hso : standOne ls q = (!z.held && decide (z.version = q.version)) := by unfold standOne; rw [hz]
    by_cases c : z.held = true
    · rw [if_pos c]
      have hno : stands s' ls = false := stands_at hq (by rw [hso, c]; rfl)
      by_cases d : z.owner > 1
      · have w : p.waits z.owner = (p, true) := by unfold Pat.waits; rw [h2, if_pos d]
        rw [w, if_pos rfl]
        exact ⟨rfl, h2, .inr (.inl ⟨hf, rfl, rfl, q, hq, hst, .inr ⟨z, hz, c, .inl d⟩⟩)⟩
      · have sp : 0 ≤ p.spins ∧ p.spins ≤ 3 ∧ (n : Int) + p.spins = k + 4 := by
          rcases hw with g | ⟨z', g1, g2, g3⟩
          · omega
          · rw [hz] at g1; cases g1
            rcases g3 with g | g
            · exact absurd g d
            · exact g
        have w : p.waits z.owner = ({ p with spins := p.spins - 1 }, decide (p.spins - 1 ≥ 0)) := by unfold Pat.waits; rw [h2, if_neg d, wi64 (by omega) (by omega)]
        rw [w]
        by_cases z0 : p.spins - 1 ≥ 0
        · rw [if_pos (by simp; omega)]
          exact ⟨rfl, h2, .inr (.inl ⟨hf, rfl, rfl, q, hq, hst, .inr ⟨z, hz, c, .inr ⟨by simp only; omega, by simp only; omega, by simp only; omega⟩⟩⟩)⟩
        · rw [if_neg (by simp; omega)]
          exact ⟨rfl, h2, .inr (.inr (.inr ⟨rfl, hno⟩))⟩
    · rw [if_neg c, hg]
      have nw : n = k + 1 ∧ p.spins = 3 := by
        rcases hw with g | ⟨z', g1, g2, g3⟩
        · exact g
        · rw [hz] at g1; cases g1; exact absurd g2 c
      by_cases d : z.version = q.version
      · rw [if_pos d]
        refine StandInv.done h2 hf nw.2 hkl ?_ (by omega)
        rw [List.take_add_one, hq]
        simp only [Option.toList_some]
        rw [stands_snoc, hst, hso]
        simp [c, d]
      · rw [if_neg d]
        exact ⟨rfl, h2, .inr (.inr (.inr ⟨rfl, stands_at hq (by rw [hso]; simp [d])⟩))⟩
  · omega
  · omega

end Go.Proofs.Ytaghnmllaghcbaa.S
