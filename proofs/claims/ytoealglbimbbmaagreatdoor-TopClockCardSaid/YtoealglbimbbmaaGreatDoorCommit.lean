/-
  CHAPTER 25: a commit (package commit): its model, its contracts.
-/
import Derived.Test.YtoealglbimbbmaaGreatDoorExtend
import Derived.Test.YtoealglbimbbmaaGreatDoorWritesStr
namespace Go.Proofs.YtoealglbimbbmaaGreatDoor.S
open Go Go.Proofs
set_option linter.unusedVariables false
set_option linter.unusedSimpArgs false

structure ComS where
  pat : Pat
  me : Int
  stamp : Int
  seen : List TSeen
  cells : List TCell
  stripes : List Int
  was : List TLock
  state : Int
  pos : Nat
  lock : TLock
  now : Int
  writing : Bool
  fin : Int
  by_ : Int
  err : Int

/-- where a number is in a list -/
def idxS : List Int → Int → Option Nat
  | [], _ => none
  | s :: l, a => if s = a then some 0 else (idxS l a).map (· + 1)
theorem idxS_some {a : Int} : ∀ {l : List Int} {k : Nat}, idxS l a = some k → l[k]? = some a
  | [], k, h => by cases h
  | s :: l, k, h => by
    unfold idxS at h
    split at h
    · rename_i e; cases h; simp [e]
    · cases hi : idxS l a with
      | none => rw [hi] at h; cases h
      | some j => rw [hi] at h; cases h; simpa using idxS_some hi
theorem idxS_none {a : Int} : ∀ {l : List Int}, idxS l a = none ↔ a ∉ l
  | [] => by simp [idxS]
  | s :: l => by
    unfold idxS
    split
    · rename_i e; simp [e]
    · rename_i e
      have := idxS_none (a := a) (l := l)
      simp only [Option.map_eq_none_iff, this, List.mem_cons, not_or]
      exact ⟨fun h => ⟨fun g => e g.symm, h⟩, fun h => h.2⟩
theorem idxS_lt {a : Int} {l : List Int} {k : Nat} (h : idxS l a = some k) : k < l.length := (List.getElem?_eq_some_iff.1 (idxS_some h)).1
/-- in a rising list each number is at one place -/
theorem idxS_rising {a : Int} {l : List Int} {k : Nat} (hr : l.Pairwise (· < ·)) (h : l[k]? = some a) : idxS l a = some k := by
  cases hi : idxS l a with
  | none => exact absurd (List.mem_of_getElem? h) (idxS_none.1 hi)
  | some j =>
    have e := idxS_some hi
    obtain ⟨h1, e1⟩ := List.getElem?_eq_some_iff.1 h
    obtain ⟨h2, e2⟩ := List.getElem?_eq_some_iff.1 e
    rcases Nat.lt_trichotomy j k with g | g | g
    · have := List.pairwise_iff_getElem.1 hr j k h2 h1 g; omega
    · rw [g]
    · have := List.pairwise_iff_getElem.1 hr k j h1 h2 g; omega

def comMore (x : ComS) : ComS := { x with state := if x.was.length = x.stripes.length then 2 else 0 }
def comLeave (x : ComS) : ComS := if x.pos = x.was.length then { x with pat := x.pat.stop x.fin x.err x.by_ } else x
def comStop (x : ComS) (e er b : Int) : ComS := comLeave { x with fin := e, err := er, by_ := b, pos := 0, state := 7 }
def comHeld (x : ComS) (l : TLock) : ComS := if (x.pat.waits l.owner).2 = true then { x with pat := (x.pat.waits l.owner).1 } else comStop { x with pat := (x.pat.waits l.owner).1 } 5 0 l.owner
def comGive (x : ComS) : ComS := if x.pos = x.stripes.length then { x with pat := x.pat.stop 2 0 (-1) } else x
def comWrite (x : ComS) : ComS := if x.pos = x.cells.length then comGive { x with pos := 0, state := 6 } else x
def comBegin (x : ComS) : ComS := comWrite { x with writing := true, pos := 0, state := 5 }
/-- what is known of a stripe that it holds: its version -/
def ownV (x : ComS) (s : Int) : Option Int := (idxS x.stripes s).map fun i => (x.was.getD i zeroLock).version
def proveN : Nat → ComS → ComS
  | 0, x => comBegin x
  | n + 1, x => match ownV x (x.seen.getD x.pos ⟨0, 0⟩).stripe with
    | none => x
    | some v => if v = (x.seen.getD x.pos ⟨0, 0⟩).version then proveN n { x with pos := x.pos + 1 } else comStop x 5 0 (-1)
def comProve (x : ComS) : ComS := proveN (x.seen.length - x.pos) { x with state := 4 }
def comProved (x : ComS) (l : TLock) : ComS :=
  if l.held = true then comHeld x l else if l.version = (x.seen.getD x.pos ⟨0, 0⟩).version then comProve { x with pos := x.pos + 1 } else comStop x 5 0 (-1)
def comTake (x : ComS) (a : TAns) : ComS :=
  if x.state = 0 then (if a.lock.held = true then comHeld x a.lock else { x with lock := a.lock, state := 1 })
  else if a.done = true then comMore { x with was := x.was ++ [x.lock] } else { x with state := 0 }
def comRaise (x : ComS) (a : TAns) : ComS :=
  if x.state = 2 then (if 4611686018427387903 ≤ a.word then comStop x 4 7 (-1) else { x with now := a.word, state := 3 })
  else if a.done = false then { x with state := 2 } else if x.now = x.stamp then comBegin x else comProve x
def comTell (x : ComS) (a : TAns) : ComS :=
  if (x.pat.stopped a.err).fin = 0 then
    (if x.state = 0 ∨ x.state = 1 then comTake x a
     else if x.state = 2 ∨ x.state = 3 then comRaise x a
     else if x.state = 4 then comProved x a.lock
     else if x.state = 5 then comWrite { x with pos := x.pos + 1 }
     else if x.state = 6 then comGive { x with pos := x.pos + 1 }
     else comLeave { x with pos := x.pos + 1 })
  else { x with pat := x.pat.stopped a.err }
def comNew (me sp stamp : Int) (seen : List TSeen) (cells : List TCell) (stripes : List Int) : ComS :=
  comMore ⟨newPat me sp, me, stamp, seen, cells, stripes, [], 0, 0, zeroLock, 0, false, 0, 0, 0⟩
def comNext (x : ComS) : TOp × Bool :=
  if x.pat.fin = 0 then
    ((if x.state = 0 then ⟨3, x.stripes.getD x.was.length 0, 0, 0, zeroLock, zeroLock⟩
      else if x.state = 1 then ⟨4, x.stripes.getD x.was.length 0, 0, 0, x.lock, ⟨x.lock.version, true, x.me⟩⟩
      else if x.state = 2 then ⟨6, 0, 0, 0, zeroLock, zeroLock⟩
      else if x.state = 3 then ⟨7, 0, x.now, IntKind.wrap .u64 (x.now + 1), zeroLock, zeroLock⟩
      else if x.state = 4 then ⟨3, (x.seen.getD x.pos ⟨0, 0⟩).stripe, 0, 0, zeroLock, zeroLock⟩
      else if x.state = 5 then ⟨2, (x.cells.getD x.pos ⟨0, 0⟩).place, 0, (x.cells.getD x.pos ⟨0, 0⟩).word, zeroLock, zeroLock⟩
      else if x.state = 6 then ⟨5, x.stripes.getD x.pos 0, 0, 0, zeroLock, ⟨IntKind.wrap .u64 (x.now + 1), false, 0⟩⟩
      else ⟨5, x.stripes.getD x.pos 0, 0, 0, zeroLock, x.was.getD x.pos zeroLock⟩), true)
  else (zeroOp, false)

/-- what does not turn, how long its lists are -/
structure ComLen (x : ComS) : Prop where
  rising : x.stripes.Pairwise (· < ·)
  few : x.stripes.length ≤ 16
  was : x.was.length ≤ x.stripes.length
  seen : x.seen.length ≤ 1000000
  cells : x.cells.length ≤ 1000000

/-- while it goes on it has something to do -/
structure ComOk (x : ComS) : Prop where
  len : ComLen x
  st : 0 ≤ x.state ∧ x.state ≤ 7
  pos : x.pos ≤ 1000000
  here : x.pat.fin = 0 →
    ((x.state = 0 ∨ x.state = 1) → x.was.length < x.stripes.length ∧ x.pos = 0) ∧ ((x.state = 2 ∨ x.state = 3) → x.was.length = x.stripes.length ∧ x.pos = 0) ∧
    (x.state = 4 → x.was.length = x.stripes.length ∧ x.pos < x.seen.length) ∧ (x.state = 5 → x.was.length = x.stripes.length ∧ x.pos < x.cells.length) ∧
    (x.state = 6 → x.was.length = x.stripes.length ∧ x.pos < x.stripes.length) ∧ (x.state = 7 → x.pos < x.was.length ∧ x.fin ≠ 0)

theorem ComLen.eqs {x y : ComS} (h : ComLen x) (h1 : y.stripes = x.stripes) (h2 : y.was = x.was) (h3 : y.seen = x.seen) (h4 : y.cells = x.cells) : ComLen y :=
  ⟨by rw [h1]; exact h.rising, by rw [h1]; exact h.few, by rw [h1, h2]; exact h.was, by rw [h3]; exact h.seen, by rw [h4]; exact h.cells⟩

theorem comLeave_ok {x : ComS} (h : ComLen x) (hs : x.state = 7) (hp : x.pos ≤ x.was.length) (hf : x.fin ≠ 0) : ComOk (comLeave x) := by
  have h1 := h.was
  have h2 := h.few
  unfold comLeave
  split
  · exact ⟨h.eqs rfl rfl rfl rfl, by simp [hs], by simp only; omega, fun g => absurd g hf⟩
  · exact ⟨h, by omega, by omega, fun _ => ⟨by omega, by omega, by omega, by omega, by omega, by omega⟩⟩
theorem comStop_ok {x : ComS} (h : ComLen x) {e er b : Int} (he : e ≠ 0) : ComOk (comStop x e er b) := comLeave_ok (h.eqs rfl rfl rfl rfl) rfl (Nat.zero_le _) he
theorem comHeld_ok {x : ComS} (h : ComOk x) (hf : x.pat.fin = 0) (l : TLock) : ComOk (comHeld x l) := by
  have hw : (x.pat.waits l.owner).1.fin = x.pat.fin := by unfold Pat.waits; split <;> rfl
  unfold comHeld
  split
  · exact ⟨h.len.eqs rfl rfl rfl rfl, h.st, h.pos, fun _ => h.here hf⟩
  · exact comStop_ok (x := { x with pat := (x.pat.waits l.owner).1 }) (e := 5) (h.len.eqs rfl rfl rfl rfl) (by decide)
theorem comGive_ok {x : ComS} (h : ComLen x) (hs : x.state = 6) (hp : x.pos ≤ x.stripes.length) (hw : x.was.length = x.stripes.length) : ComOk (comGive x) := by
  have h2 := h.few
  unfold comGive
  split
  · exact ⟨h.eqs rfl rfl rfl rfl, by simp [hs], by simp only; omega, fun g => by simp [Pat.stop] at g⟩
  · exact ⟨h, by omega, by omega, fun _ => ⟨by omega, by omega, by omega, by omega, by omega, by omega⟩⟩
theorem comWrite_ok {x : ComS} (h : ComLen x) (hs : x.state = 5) (hp : x.pos ≤ x.cells.length) (hw : x.was.length = x.stripes.length) : ComOk (comWrite x) := by
  have h2 := h.cells
  unfold comWrite
  split
  · exact comGive_ok (h.eqs rfl rfl rfl rfl) rfl (Nat.zero_le _) hw
  · exact ⟨h, by omega, by omega, fun _ => ⟨by omega, by omega, by omega, by omega, by omega, by omega⟩⟩
theorem comBegin_ok {x : ComS} (h : ComLen x) (hw : x.was.length = x.stripes.length) : ComOk (comBegin x) := comWrite_ok (h.eqs rfl rfl rfl rfl) rfl (Nat.zero_le _) hw
theorem proveN_ok : ∀ {n : Nat} {x : ComS}, ComLen x → x.state = 4 → x.was.length = x.stripes.length → x.seen.length = x.pos + n → ComOk (proveN n x)
  | 0, x, h, hs, hw, hn => comBegin_ok h hw
  | n + 1, x, h, hs, hw, hn => by
    have h2 := h.seen
    unfold proveN
    split
    · exact ⟨h, by omega, by omega, fun _ => ⟨by omega, by omega, by omega, by omega, by omega, by omega⟩⟩
    · split
      · exact proveN_ok (h.eqs rfl rfl rfl rfl) hs hw (by simp only; omega)
      · exact comStop_ok (e := 5) h (by decide)
theorem comProve_ok {x : ComS} (h : ComLen x) (hw : x.was.length = x.stripes.length) (hp : x.pos ≤ x.seen.length) : ComOk (comProve x) := proveN_ok (h.eqs rfl rfl rfl rfl) rfl hw (by simp only; omega)
theorem comMore_ok {x : ComS} (h : ComLen x) (hp : x.pos = 0) : ComOk (comMore x) := by
  have h1 := h.was
  unfold comMore
  refine ⟨h.eqs rfl rfl rfl rfl, by simp only; split <;> omega, by simp only; omega, fun _ => ?_⟩
  simp only
  split <;> exact ⟨by omega, by omega, by omega, by omega, by omega, by omega⟩

theorem comTell_ok {x : ComS} (h : ComOk x) (a : TAns) : ComOk (comTell x a) := by
  have hp := h.pos
  unfold comTell
  split
  · rename_i hs
    have hpe : x.pat.stopped a.err = x.pat := by
      unfold Pat.stopped at hs ⊢; split
      · rename_i h; rw [if_pos h] at hs; simp [Pat.stop] at hs
      · rfl
    rw [hpe] at hs
    obtain ⟨g01, g23, g4, g5, g6, g7⟩ := h.here hs
    split
    · rename_i c
      have g := g01 c
      unfold comTake
      split
      · split
        · exact comHeld_ok h hs _
        · exact ⟨h.len.eqs rfl rfl rfl rfl, by simp, by simp only; omega, fun _ => ⟨by simp only; omega, by simp only; omega, by simp only; omega, by simp only; omega, by simp only; omega, by simp only; omega⟩⟩
      · split
        · exact comMore_ok ⟨h.len.rising, h.len.few, by simp; omega, h.len.seen, h.len.cells⟩ g.2
        · exact ⟨h.len.eqs rfl rfl rfl rfl, by simp, by simp only; omega, fun _ => ⟨by simp only; omega, by simp only; omega, by simp only; omega, by simp only; omega, by simp only; omega, by simp only; omega⟩⟩
    split
    · rename_i c
      have g := g23 c
      unfold comRaise
      split
      · split
        · exact comStop_ok (e := 4) h.len (by decide)
        · exact ⟨h.len.eqs rfl rfl rfl rfl, by simp, by simp only; omega, fun _ => ⟨by simp only; omega, by simp only; omega, by simp only; omega, by simp only; omega, by simp only; omega, by simp only; omega⟩⟩
      · split
        · exact ⟨h.len.eqs rfl rfl rfl rfl, by simp, by simp only; omega, fun _ => ⟨by simp only; omega, by simp only; omega, by simp only; omega, by simp only; omega, by simp only; omega, by simp only; omega⟩⟩
        · split
          · exact comBegin_ok h.len g.1
          · exact comProve_ok h.len g.1 (by omega)
    split
    · rename_i c
      have g := g4 c
      unfold comProved
      split
      · exact comHeld_ok h hs _
      · split
        · exact comProve_ok (h.len.eqs rfl rfl rfl rfl) g.1 (by simp only; omega)
        · exact comStop_ok (e := 5) h.len (by decide)
    split
    · rename_i c
      have g := g5 c
      exact comWrite_ok (h.len.eqs rfl rfl rfl rfl) c (by simp only; omega) g.1
    split
    · rename_i c
      have g := g6 c
      exact comGive_ok (h.len.eqs rfl rfl rfl rfl) c (by simp only; omega) g.1
    · have c : x.state = 7 := by have := h.st; omega
      have g := g7 c
      exact comLeave_ok (h.len.eqs rfl rfl rfl rfl) c (by simp only; omega) g.2
  · rename_i hs
    exact ⟨h.len.eqs rfl rfl rfl rfl, h.st, h.pos, fun g => absurd g hs⟩

end Go.Proofs.YtoealglbimbbmaaGreatDoor.S
