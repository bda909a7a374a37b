/-
  CHAPTER 23, THE PLAIN LAW: a fetch between a writer's moves tells a word that stood at its version.
-/
import Derived.Test.YtaghnmllaghcbaaFetchRel
import Derived.Test.YtaghnmllaghcbaaMem
namespace Go.Proofs.Ytaghnmllaghcbaa.S
open Go Go.Proofs
set_option linter.unusedVariables false
set_option linter.unusedSimpArgs false

/-- the stripe's lock between the writer's moves -/
def trueLock (n : Nat) (phase : Nat) : TLock := if phase = 0 then ⟨n, false, 0⟩ else ⟨n, true, 1⟩

structure TrueMem (m : MemS) (was : List Int) (phase : Nat) : Prop where
  len : m.w.length = 32
  ne : 0 < was.length
  few : was.length ≤ 100
  ph : phase < 3
  locks : m.l = [trueLock (was.length - 1) phase]
  word : m.w.getD 9 0 = if phase = 2 then 100 + ((was.length - 1 : Nat) : Int) else was.getD (was.length - 1) 0

structure TrueFetch (t : Int) (f : FetchS) (was : List Int) (phase : Nat) : Prop where
  me : f.pat.me = 0
  place : f.place = 9
  stripe : f.stripe = 0
  stamp : f.stamp = t
  ends : f.pat.fin = 0 ∨ f.pat.fin = 2 ∨ f.pat.fin = 6
  state : f.pat.fin = 0 → f.state = 1 ∨ f.state = 2 → ∃ v : Nat, f.lock = ⟨v, false, 0⟩ ∧ (v : Int) ≤ t ∧ v < was.length ∧ (f.state = 2 → v + 1 < was.length ∨ f.word = was.getD v 0 ∨ phase = 2)
  done : f.pat.fin = 2 → ∃ v : Nat, f.lock.version = v ∧ (v : Int) ≤ t ∧ v < was.length ∧ f.word = was.getD v 0

theorem trueLock_is (n phase : Nat) (h : n ≤ 1000) : isLock (trueLock n phase) = true := by
  unfold trueLock isLock
  split
  · simp; omega
  · simp; omega

theorem storeOne (x y : TLock) (h : isLock y = true) : storeRes [x] 0 y = ([y], 0) := by
  unfold storeRes mayErr inLen; simp [h]

theorem memDo_5 {m : MemS} {x y u : TLock} (hl : m.l = [x]) (h : isLock y = true) : (memDo m ⟨5, 0, 0, 0, u, y⟩).1.l = [y] ∧ (memDo m ⟨5, 0, 0, 0, u, y⟩).1.w = m.w := by
  unfold memDo
  rw [memStep_5 rfl, hl, storeOne x y h]
  simp

theorem memDo_2 {m : MemS} {v : Int} {u y : TLock} (hl : m.w.length = 32) : (memDo m ⟨2, 9, 0, v, u, y⟩).1.l = m.l ∧ (memDo m ⟨2, 9, 0, v, u, y⟩).1.w = m.w.set 9 v := by
  unfold memDo
  rw [memStep_2 rfl]
  simp [inHeap, hl, zeroAns]

theorem TrueMem.take {m : MemS} {was : List Int} (h : TrueMem m was 0) : TrueMem (memDo m ⟨5, 0, 0, 0, ⟨0, false, 0⟩, ⟨((was.length - 1 : Nat) : Int), true, 1⟩⟩).1 was 1 := by
  obtain ⟨e1, e2⟩ := memDo_5 (m := m) (x := trueLock (was.length - 1) 0) (y := ⟨((was.length - 1 : Nat) : Int), true, 1⟩) (u := ⟨0, false, 0⟩) h.locks (trueLock_is (was.length - 1) 1 (by have := h.few; omega))
  exact ⟨by rw [e2]; exact h.len, h.ne, h.few, by omega, by rw [e1]; rfl, by rw [e2]; simpa using h.word⟩

theorem TrueMem.free {m : MemS} {was : List Int} (h : TrueMem m was 1) : TrueMem (memDo m ⟨5, 0, 0, 0, ⟨0, false, 0⟩, ⟨((was.length - 1 : Nat) : Int), false, 0⟩⟩).1 was 0 := by
  obtain ⟨e1, e2⟩ := memDo_5 (m := m) (x := trueLock (was.length - 1) 1) (y := ⟨((was.length - 1 : Nat) : Int), false, 0⟩) (u := ⟨0, false, 0⟩) h.locks (trueLock_is (was.length - 1) 0 (by have := h.few; omega))
  exact ⟨by rw [e2]; exact h.len, h.ne, h.few, by omega, by rw [e1]; rfl, by rw [e2]; simpa using h.word⟩

theorem TrueMem.write {m : MemS} {was : List Int} (h : TrueMem m was 1) : TrueMem (memDo m ⟨2, 9, 0, 100 + ((was.length - 1 : Nat) : Int), ⟨0, false, 0⟩, ⟨0, false, 0⟩⟩).1 was 2 := by
  obtain ⟨e1, e2⟩ := memDo_2 (m := m) (v := 100 + ((was.length - 1 : Nat) : Int)) (u := ⟨0, false, 0⟩) (y := ⟨0, false, 0⟩) h.len
  have hl := h.len
  exact ⟨by rw [e2]; simpa using h.len, h.ne, h.few, by omega, by rw [e1, h.locks]; rfl, by rw [e2]; simp [List.getElem?_set, hl]⟩

theorem TrueMem.give {m : MemS} {was : List Int} (hf : was.length < 100) (h : TrueMem m was 2) : TrueMem (memDo m ⟨5, 0, 0, 0, ⟨0, false, 0⟩, ⟨((was.length : Nat) : Int), false, 0⟩⟩).1 (was ++ [100 + ((was.length - 1 : Nat) : Int)]) 0 := by
  obtain ⟨e1, e2⟩ := memDo_5 (m := m) (x := trueLock (was.length - 1) 2) (y := ⟨((was.length : Nat) : Int), false, 0⟩) (u := ⟨0, false, 0⟩) h.locks (trueLock_is was.length 0 (by omega))
  exact ⟨by rw [e2]; exact h.len, by simp, by simp; omega, by omega, by rw [e1]; simp [trueLock], by rw [e2, h.word]; simp⟩

theorem TrueFetch.move {t : Int} {f : FetchS} {was : List Int} {p q : Nat} (h : TrueFetch t f was p) (hp : p ≠ 2) : TrueFetch t f was q :=
  ⟨h.me, h.place, h.stripe, h.stamp, h.ends, fun a b => by
    obtain ⟨v, h1, h2, h3, h4⟩ := h.state a b
    exact ⟨v, h1, h2, h3, fun c => by rcases h4 c with g | g | g; exact .inl g; exact .inr (.inl g); exact absurd g hp⟩, h.done⟩

theorem TrueFetch.grow {t : Int} {f : FetchS} {was : List Int} {p q : Nat} {x : Int} (h : TrueFetch t f was p) : TrueFetch t f (was ++ [x]) q :=
  ⟨h.me, h.place, h.stripe, h.stamp, h.ends, fun a b => by
    obtain ⟨v, h1, h2, h3, h4⟩ := h.state a b
    exact ⟨v, h1, h2, by simp; omega, fun c => .inl (by simp; omega)⟩, fun a => by
    obtain ⟨v, h1, h2, h3, h4⟩ := h.done a
    exact ⟨v, h1, h2, by simp; omega, by rw [h4]; simp [List.getElem?_append_left h3]⟩⟩

theorem TrueMem.read {m : MemS} {was : List Int} {phase : Nat} (h : TrueMem m was phase) : (memDo m ⟨3, 0, 0, 0, zeroLock, zeroLock⟩).2 = ⟨0, trueLock (was.length - 1) phase, false, 0⟩ ∧ TrueMem (memDo m ⟨3, 0, 0, 0, zeroLock, zeroLock⟩).1 was phase := by
  have e : loadRes m.l 0 = (trueLock (was.length - 1) phase, 0) := by rw [h.locks]; unfold loadRes inLen; simp
  unfold memDo
  rw [memStep_3 rfl]
  rw [e]
  exact ⟨rfl, h.len, h.ne, h.few, h.ph, h.locks, h.word⟩

theorem TrueMem.load {m : MemS} {was : List Int} {phase : Nat} (h : TrueMem m was phase) : (memDo m ⟨1, 9, 0, 0, zeroLock, zeroLock⟩).2 = ⟨if phase = 2 then 100 + ((was.length - 1 : Nat) : Int) else was.getD (was.length - 1) 0, zeroLock, false, 0⟩ ∧ TrueMem (memDo m ⟨1, 9, 0, 0, zeroLock, zeroLock⟩).1 was phase := by
  have e : inHeap 9 m.w = true := by unfold inHeap; rw [h.len]; rfl
  unfold memDo
  rw [memStep_1 rfl]
  simp only [e, if_true]
  rw [← h.word]
  exact ⟨rfl, h.len, h.ne, h.few, h.ph, h.locks, h.word⟩

theorem TrueFetch.mine {t : Int} {m : MemS} {f : FetchS} {was : List Int} {phase : Nat} (hm : TrueMem m was phase) (h : TrueFetch t f was phase) (hf : f.pat.fin = 0) :
    TrueMem (memDo m (fetchNext f).1).1 was phase ∧ TrueFetch t (fetchTell f (memDo m (fetchNext f).1).2) was phase := by
  unfold fetchNext
  rw [if_pos hf, h.place, h.stripe]
  have hs : ∀ x, (⟨x, zeroLock, false, 0⟩ : TAns).err = 0 := fun _ => rfl
  have e0 : f.pat.stopped 0 = f.pat := by unfold Pat.stopped; rw [if_neg (by simp)]
  have hlen := hm.ne
  by_cases c1 : f.state = 1
  · rw [if_pos c1]
    obtain ⟨e1, e2⟩ := hm.load
    refine ⟨e2, ?_⟩
    simp only [e1]
    unfold fetchTell
    simp only [e0, hf, c1, if_true]
    refine ⟨h.me, h.place, h.stripe, h.stamp, .inl hf, fun _ _ => ?_, fun g => by rw [hf] at g; cases g⟩
    obtain ⟨v, h1, h2, h3, h4⟩ := h.state hf (.inl c1)
    refine ⟨v, h1, h2, h3, fun _ => ?_⟩
    by_cases c : v + 1 < was.length
    · exact .inl c
    · by_cases c2 : phase = 2
      · exact .inr (.inr c2)
      · simp only [if_neg c2]
        exact .inr (.inl (by rw [show v = was.length - 1 by omega]))
  · rw [if_neg c1]
    obtain ⟨e1, e2⟩ := hm.read
    refine ⟨e2, ?_⟩
    simp only [e1]
    unfold fetchTell
    simp only [e0, hf, c1, if_true, if_false]
    by_cases c2 : f.state = 2 ∧ trueLock (was.length - 1) phase = f.lock
    · rw [if_pos c2]
      obtain ⟨v, h1, h2, h3, h4⟩ := h.state hf (.inr c2.1)
      refine ⟨h.me, h.place, h.stripe, h.stamp, .inr (.inl rfl), fun g => by simp [Pat.stop] at g, fun _ => ?_⟩
      have h5 := c2.2
      rw [h1] at h5
      unfold trueLock at h5
      split at h5 <;> rename_i hp
      · simp only [TLock.mk.injEq, and_true] at h5
        refine ⟨v, by rw [h1], h2, h3, ?_⟩
        rcases h4 c2.1 with g | g | g
        · omega
        · exact g
        · omega
      · simp at h5
    · rw [if_neg c2]
      unfold fetchFound trueLock
      by_cases hp : phase = 0
      · simp only [hp, if_true, Bool.false_eq_true, if_false]
        by_cases c3 : (((was.length - 1 : Nat) : Int)) > f.stamp
        · rw [if_pos c3]
          exact ⟨h.me, h.place, h.stripe, h.stamp, .inr (.inr rfl), fun g => by simp [Pat.stop] at g, fun g => by simp [Pat.stop] at g⟩
        · rw [if_neg c3]
          refine ⟨h.me, h.place, h.stripe, h.stamp, .inl hf, fun _ _ => ⟨was.length - 1, rfl, by rw [← h.stamp]; omega, by omega, fun g => by simp at g⟩, fun g => by simp only at g; rw [hf] at g; cases g⟩
      · have hw : f.pat.waits 1 = (f.pat, true) := by unfold Pat.waits; rw [h.me]; simp
        simp only [hp, if_false, if_true, hw]
        exact ⟨h.me, h.place, h.stripe, h.stamp, .inl hf, fun _ g => by simp at g, fun g => by simp only at g; rw [hf] at g; cases g⟩

end Go.Proofs.Ytaghnmllaghcbaa.S
