import Derived.Test.YtoealglbimbbmaaGreatDoorExtend
import Derived.Test.YtoealglbimbbmaaGreatDoorWritesStr
namespace Go.Proofs.YtoealglbimbbmaaGreatDoor.S
open Go Go.Proofs
set_option linter.unusedVariables false
set_option linter.unusedSimpArgs false
structure ComS where
 pat : Pat
 me : Int
 stamp : Int
 seen : List TSeen
 cells : List TCell
 stripes : List Int
 was : List TLock
 state : Int
 pos : Nat
 lock : TLock
 now : Int
 writing : Bool
 fin : Int
 by_ : Int
 err : Int
def idxS : List Int → Int → Option Nat
 | [], _ => none
 | s :: l, a => if s = a then some 0 else (idxS l a).map (· + 1)
theorem idxS_some {a : Int} : ∀ {l : List Int} {k : Nat}, idxS l a = some k → l[k]? = some a
 | [], k, h => by cases h
 | s :: l, k, h => by
  unfold idxS at h
  split at h
  ·rename_i e; cases h; simp [e]
  ·cases hi : idxS l a with
   | none => rw [hi] at h; cases h
   | some j => rw [hi] at h; cases h; simpa using idxS_some hi
theorem idxS_none {a : Int} : ∀ {l : List Int}, idxS l a = none ↔ a ∉ l
 | [] => by simp [idxS]
 | s :: l => by
  unfold idxS
  split
  ·rename_i e; simp [e]
  ·rename_i e
   have := idxS_none (a := a) (l := l)
   simp only [Option.map_eq_none_iff, this, List.mem_cons, not_or]
   exact ⟨fun h => ⟨fun g => e g.symm, h⟩, fun h => h.2⟩
theorem idxS_lt {a : Int} {l : List Int} {k : Nat} (h : idxS l a = some k) : k < l.length := (List.getElem?_eq_some_iff.1 (idxS_some h)).1
theorem idxS_rising {a : Int} {l : List Int} {k : Nat} (hr : l.Pairwise (· < ·)) (h : l[k]? = some a) : idxS l a = some k := by
 cases hi : idxS l a with
 | none => exact absurd (List.mem_of_getElem? h) (idxS_none.1 hi)
 | some j =>
  have e := idxS_some hi
  obtain ⟨h1, e1⟩ := List.getElem?_eq_some_iff.1 h
  obtain ⟨h2, e2⟩ := List.getElem?_eq_some_iff.1 e
  rcases Nat.lt_trichotomy j k with g | g | g
  ·have := List.pairwise_iff_getElem.1 hr j k h2 h1 g; omega
  ·rw [g]
  ·have := List.pairwise_iff_getElem.1 hr k j h1 h2 g; omega
def comMore (x : ComS) : ComS := { x with state := if x.was.length = x.stripes.length then 2 else 0 }
def comLeave (x : ComS) : ComS := if x.pos = x.was.length then { x with pat := x.pat.stop x.fin x.err x.by_ } else x
def comStop (x : ComS) (e er b : Int) : ComS := comLeave { x with fin := e, err := er, by_ := b, pos := 0, state := 7 }
def comHeld (x : ComS) (l : TLock) : ComS := if (x.pat.waits l.owner).2 = true then { x with pat := (x.pat.waits l.owner).1 } else comStop { x with pat := (x.pat.waits l.owner).1 } 5 0 l.owner
def comGive (x : ComS) : ComS := if x.pos = x.stripes.length then { x with pat := x.pat.stop 2 0 (-1) } else x
def comWrite (x : ComS) : ComS := if x.pos = x.cells.length then comGive { x with pos := 0, state := 6 } else x
def comBegin (x : ComS) : ComS := comWrite { x with writing := true, pos := 0, state := 5 }
def ownV (x : ComS) (s : Int) : Option Int := (idxS x.stripes s).map fun i => (x.was.getD i zeroLock).version
def proveN : Nat → ComS → ComS
 | 0, x => comBegin x
 | n + 1, x => match ownV x (x.seen.getD x.pos ⟨0, 0⟩).stripe with
  | none => x
  | some v => if v = (x.seen.getD x.pos ⟨0, 0⟩).version then proveN n { x with pos := x.pos + 1 } else comStop x 5 0 (-1)
def comProve (x : ComS) : ComS := proveN (x.seen.length - x.pos) { x with state := 4 }
def comProved (x : ComS) (l : TLock) : ComS :=
 if l.held = true then comHeld x l else if l.version = (x.seen.getD x.pos ⟨0, 0⟩).version then comProve { x with pos := x.pos + 1 } else comStop x 5 0 (-1)
def comTake (x : ComS) (a : TAns) : ComS :=
 if x.state = 0 then (if a.lock.held = true then comHeld x a.lock else { x with lock := a.lock, state := 1 })
 else if a.done = true then comMore { x with was := x.was ++ [x.lock] } else { x with state := 0 }
def comRaise (x : ComS) (a : TAns) : ComS :=
 if x.state = 2 then (if 4611686018427387903 ≤ a.word then comStop x 4 7 (-1) else { x with now := a.word, state := 3 })
 else if a.done = false then { x with state := 2 } else if x.now = x.stamp then comBegin x else comProve x
def comTell (x : ComS) (a : TAns) : ComS :=
 if (x.pat.stopped a.err).fin = 0 then
  (if x.state = 0 ∨ x.state = 1 then comTake x a
   else if x.state = 2 ∨ x.state = 3 then comRaise x a
   else if x.state = 4 then comProved x a.lock
   else if x.state = 5 then comWrite { x with pos := x.pos + 1 }
   else if x.state = 6 then comGive { x with pos := x.pos + 1 }
   else comLeave { x with pos := x.pos + 1 })
 else { x with pat := x.pat.stopped a.err }
def comNew (me sp stamp : Int) (seen : List TSeen) (cells : List TCell) (stripes : List Int) : ComS :=
 comMore ⟨newPat me sp, me, stamp, seen, cells, stripes, [], 0, 0, zeroLock, 0, false, 0, 0, 0⟩
def comNext (x : ComS) : TOp × Bool :=
 if x.pat.fin = 0 then
  ((if x.state = 0 then ⟨3, x.stripes.getD x.was.length 0, 0, 0, zeroLock, zeroLock⟩
   else if x.state = 1 then ⟨4, x.stripes.getD x.was.length 0, 0, 0, x.lock, ⟨x.lock.version, true, x.me⟩⟩
   else if x.state = 2 then ⟨6, 0, 0, 0, zeroLock, zeroLock⟩
   else if x.state = 3 then ⟨7, 0, x.now, IntKind.wrap .u64 (x.now + 1), zeroLock, zeroLock⟩
   else if x.state = 4 then ⟨3, (x.seen.getD x.pos ⟨0, 0⟩).stripe, 0, 0, zeroLock, zeroLock⟩
   else if x.state = 5 then ⟨2, (x.cells.getD x.pos ⟨0, 0⟩).place, 0, (x.cells.getD x.pos ⟨0, 0⟩).word, zeroLock, zeroLock⟩
   else if x.state = 6 then ⟨5, x.stripes.getD x.pos 0, 0, 0, zeroLock, ⟨IntKind.wrap .u64 (x.now + 1), false, 0⟩⟩
   else ⟨5, x.stripes.getD x.pos 0, 0, 0, zeroLock, x.was.getD x.pos zeroLock⟩), true)
 else (zeroOp, false)
structure ComLen (x : ComS) : Prop where
 rising : x.stripes.Pairwise (· < ·)
 few : x.stripes.length ≤ 16
 was : x.was.length ≤ x.stripes.length
 seen : x.seen.length ≤ 1000000
 cells : x.cells.length ≤ 1000000
structure ComOk (x : ComS) : Prop where
 len : ComLen x
 st : 0 ≤ x.state ∧ x.state ≤ 7
 pos : x.pos ≤ 1000000
 here : x.pat.fin = 0 →
  ((x.state = 0 ∨ x.state = 1) → x.was.length < x.stripes.length ∧ x.pos = 0) ∧ ((x.state = 2 ∨ x.state = 3) → x.was.length = x.stripes.length ∧ x.pos = 0) ∧
  (x.state = 4 → x.was.length = x.stripes.length ∧ x.pos < x.seen.length) ∧ (x.state = 5 → x.was.length = x.stripes.length ∧ x.pos < x.cells.length) ∧
  (x.state = 6 → x.was.length = x.stripes.length ∧ x.pos < x.stripes.length) ∧ (x.state = 7 → x.pos < x.was.length ∧ x.fin ≠ 0)
theorem ComLen.eqs {x y : ComS} (h : ComLen x) (h1 : y.stripes = x.stripes) (h2 : y.was = x.was) (h3 : y.seen = x.seen) (h4 : y.cells = x.cells) : ComLen y :=
 ⟨by rw [h1]; exact h.rising, by rw [h1]; exact h.few, by rw [h1, h2]; exact h.was, by rw [h3]; exact h.seen, by rw [h4]; exact h.cells⟩
theorem comLeave_ok {x : ComS} (h : ComLen x) (hs : x.state = 7) (hp : x.pos ≤ x.was.length) (hf : x.fin ≠ 0) : ComOk (comLeave x) := by
 have h1 := h.was
 have h2 := h.few
 unfold comLeave
 split
 ·exact ⟨h.eqs rfl rfl rfl rfl, by simp [hs], by simp only; omega, fun g => absurd g hf⟩
 ·exact ⟨h, by omega, by omega, fun _ => ⟨by omega, by omega, by omega, by omega, by omega, by omega⟩⟩
theorem comStop_ok {x : ComS} (h : ComLen x) {e er b : Int} (he : e ≠ 0) : ComOk (comStop x e er b) := comLeave_ok (h.eqs rfl rfl rfl rfl) rfl (Nat.zero_le _) he
theorem comHeld_ok {x : ComS} (h : ComOk x) (hf : x.pat.fin = 0) (l : TLock) : ComOk (comHeld x l) := by
 have hw : (x.pat.waits l.owner).1.fin = x.pat.fin := by unfold Pat.waits; split <;> rfl
 unfold comHeld
 split
 ·exact ⟨h.len.eqs rfl rfl rfl rfl, h.st, h.pos, fun _ => h.here hf⟩
 ·exact comStop_ok (x := { x with pat := (x.pat.waits l.owner).1 }) (e := 5) (h.len.eqs rfl rfl rfl rfl) (by decide)
theorem comGive_ok {x : ComS} (h : ComLen x) (hs : x.state = 6) (hp : x.pos ≤ x.stripes.length) (hw : x.was.length = x.stripes.length) : ComOk (comGive x) := by
 have h2 := h.few
 unfold comGive
 split
 ·exact ⟨h.eqs rfl rfl rfl rfl, by simp [hs], by simp only; omega, fun g => by simp [Pat.stop] at g⟩
 ·exact ⟨h, by omega, by omega, fun _ => ⟨by omega, by omega, by omega, by omega, by omega, by omega⟩⟩
theorem comWrite_ok {x : ComS} (h : ComLen x) (hs : x.state = 5) (hp : x.pos ≤ x.cells.length) (hw : x.was.length = x.stripes.length) : ComOk (comWrite x) := by
 have h2 := h.cells
 unfold comWrite
 split
 ·exact comGive_ok (h.eqs rfl rfl rfl rfl) rfl (Nat.zero_le _) hw
 ·exact ⟨h, by omega, by omega, fun _ => ⟨by omega, by omega, by omega, by omega, by omega, by omega⟩⟩
theorem comBegin_ok {x : ComS} (h : ComLen x) (hw : x.was.length = x.stripes.length) : ComOk (comBegin x) := comWrite_ok (h.eqs rfl rfl rfl rfl) rfl (Nat.zero_le _) hw
theorem proveN_ok : ∀ {n : Nat} {x : ComS}, ComLen x → x.state = 4 → x.was.length = x.stripes.length → x.seen.length = x.pos + n → ComOk (proveN n x)
 | 0, x, h, hs, hw, hn => comBegin_ok h hw
 | n + 1, x, h, hs, hw, hn => by
  have h2 := h.seen
  unfold proveN
  split
  ·exact ⟨h, by omega, by omega, fun _ => ⟨by omega, by omega, by omega, by omega, by omega, by omega⟩⟩
  ·split
   ·exact proveN_ok (h.eqs rfl rfl rfl rfl) hs hw (by simp only; omega)
   ·exact comStop_ok (e := 5) h (by decide)
theorem comProve_ok {x : ComS} (h : ComLen x) (hw : x.was.length = x.stripes.length) (hp : x.pos ≤ x.seen.length) : ComOk (comProve x) := proveN_ok (h.eqs rfl rfl rfl rfl) rfl hw (by simp only; omega)
theorem comMore_ok {x : ComS} (h : ComLen x) (hp : x.pos = 0) : ComOk (comMore x) := by
 have h1 := h.was
 unfold comMore
 refine ⟨h.eqs rfl rfl rfl rfl, by simp only; split <;> omega, by simp only; omega, fun _ => ?_⟩
 simp only
 split <;> exact ⟨by omega, by omega, by omega, by omega, by omega, by omega⟩
theorem comTell_ok {x : ComS} (h : ComOk x) (a : TAns) : ComOk (comTell x a) := by
 have hp := h.pos
 unfold comTell
 split
 ·rename_i hs
  have hpe : x.pat.stopped a.err = x.pat := by
   unfold Pat.stopped at hs ⊢; split
   ·rename_i h; rw [if_pos h] at hs; simp [Pat.stop] at hs
   ·rfl
  rw [hpe] at hs
  obtain ⟨g01, g23, g4, g5, g6, g7⟩ := h.here hs
  split
  ·rename_i c
   have g := g01 c
   unfold comTake
   split
   ·split
    ·exact comHeld_ok h hs _
    ·exact ⟨h.len.eqs rfl rfl rfl rfl, by simp, by simp only; omega, fun _ => ⟨by simp only; omega, by simp only; omega, by simp only; omega, by simp only; omega, by simp only; omega, by simp only; omega⟩⟩
   ·split
    ·exact comMore_ok ⟨h.len.rising, h.len.few, by simp; omega, h.len.seen, h.len.cells⟩ g.2
    ·exact ⟨h.len.eqs rfl rfl rfl rfl, by simp, by simp only; omega, fun _ => ⟨by simp only; omega, by simp only; omega, by simp only; omega, by simp only; omega, by simp only; omega, by simp only; omega⟩⟩
  split
  ·rename_i c
   have g := g23 c
   unfold comRaise
   split
   ·split
    ·exact comStop_ok (e := 4) h.len (by decide)
    ·exact ⟨h.len.eqs rfl rfl rfl rfl, by simp, by simp only; omega, fun _ => ⟨by simp only; omega, by simp only; omega, by simp only; omega, by simp only; omega, by simp only; omega, by simp only; omega⟩⟩
   ·split
    ·exact ⟨h.len.eqs rfl rfl rfl rfl, by simp, by simp only; omega, fun _ => ⟨by simp only; omega, by simp only; omega, by simp only; omega, by simp only; omega, by simp only; omega, by simp only; omega⟩⟩
    ·split
     ·exact comBegin_ok h.len g.1
     ·exact comProve_ok h.len g.1 (by omega)
  split
  ·rename_i c
   have g := g4 c
   unfold comProved
   split
   ·exact comHeld_ok h hs _
   ·split
    ·exact comProve_ok (h.len.eqs rfl rfl rfl rfl) g.1 (by simp only; omega)
    ·exact comStop_ok (e := 5) h.len (by decide)
  split
  ·rename_i c
   have g := g5 c
   exact comWrite_ok (h.len.eqs rfl rfl rfl rfl) c (by simp only; omega) g.1
  split
  ·rename_i c
   have g := g6 c
   exact comGive_ok (h.len.eqs rfl rfl rfl rfl) c (by simp only; omega) g.1
  ·have c : x.state = 7 := by have := h.st; omega
   have g := g7 c
   exact comLeave_ok (h.len.eqs rfl rfl rfl rfl) c (by simp only; omega) g.2
 ·rename_i hs
  exact ⟨h.len.eqs rfl rfl rfl rfl, h.st, h.pos, fun g => absurd g hs⟩
end Go.Proofs.YtoealglbimbbmaaGreatDoor.S
namespace Go.Proofs.YtoealglbimbbmaaGreatDoor.S
open Go Go.Proofs
set_option linter.unusedVariables false
set_option linter.unusedSimpArgs false
abbrev ComS.rest (x : ComS) (v1 v2 v3 v4 : Value) : List Value := [i64 x.me, u64 x.stamp, v1, v2, v3, v4, i64 x.state, i64 x.pos, u64 x.lock.version, .bool x.lock.held, i64 x.lock.owner, u64 x.now, .bool x.writing, i64 x.fin, i64 x.by_, i64 x.err]
abbrev Cells4 (v1 v2 v3 v4 : Value) : Prop := Cells v1 [v1] ∧ Cells v2 [v2] ∧ Cells v3 [v3] ∧ Cells v4 [v4]
def ComR (b : Nat) (x : ComS) : Asn := exA fun v1 => exA fun v2 => exA fun v3 => exA fun v4 => star (pureA (Cells4 v1 v2 v3 v4)) (star (star (star (star (own b (x.pat.cells (x.rest v1 v2 v3 v4))) (sl tSeenE v1 x.seen)) (sl tCellE v2 x.cells)) (sl intE v3 x.stripes)) (sl tLockE v4 x.was))
section
variable {w0 : Base} {L M : List Asn} {K : KV} {F : World → Prop} {C : Asn → List Asn} {b : Nat} {x : ComS}
theorem ComR_open : G w0 (ob ComR b x :: M) F = ∀ v1 v2 v3 v4, Cells4 v1 v2 v3 v4 → G w0 (own b (x.pat.cells (x.rest v1 v2 v3 v4)) :: sl tSeenE v1 x.seen :: sl tCellE v2 x.cells :: sl intE v3 x.stripes :: sl tLockE v4 x.was :: M) F := by
 rw [ob_eq, ComR]
 simp only [G_ex, G_star, G_pure]
theorem ComR_close {v1 v2 v3 v4 : Value} (b : Nat) (x : ComS) [PickAll [own b (x.pat.cells (x.rest v1 v2 v3 v4)), sl tSeenE v1 x.seen, sl tCellE v2 x.cells, sl intE v3 x.stripes, sl tLockE v4 x.was] L M]
  (h : Cells4 v1 v2 v3 v4) (H : G w0 (ob ComR b x :: M) F) : G w0 L F :=
 G.pickAll (As := [own b (x.pat.cells (x.rest v1 v2 v3 v4)), sl tSeenE v1 x.seen, sl tCellE v2 x.cells, sl intE v3 x.stripes, sl tLockE v4 x.was]) (by rw [ComR_open] at H; exact H v1 v2 v3 v4 h)
theorem condHT {t : Bool} {A B : World → Prop} (h : t = true) : G w0 L (condP (.bool t) A B) = G w0 L A := by rw [h, condP_t]
theorem condHF {t : Bool} {A B : World → Prop} (h : t = false) : G w0 L (condP (.bool t) A B) = G w0 L B := by rw [h, condP_f]
theorem condHNT {t : Bool} {A B : World → Prop} (h : t = true) : G w0 L (condP (.bool (!t)) A B) = G w0 L B := by rw [h]; exact congrArg _ condP_f
theorem condHNF {t : Bool} {A B : World → Prop} (h : t = false) : G w0 L (condP (.bool (!t)) A B) = G w0 L A := by rw [h]; exact congrArg _ condP_t
theorem s_commit_Commit_leave [i : SelOb L ComR b x C] (hK : G w0 (C (ob ComR b (comLeave x))) (K (.tuple #[]))) : G w0 L (CP Tryz.prog Fn.commit_Commit_leave [ptr b 0] K) := by
 refine i.use (fun M hK => ?_) hK
 refine C_commit_Commit_leave ?_
 unfold S_commit_Commit_leave
 rw [ComR_open]
 rintro v1 v2 v3 v4 ⟨h1, h2, h3, h4⟩
 refine G.drew ?_
 try simp (maxSteps := 2000000) only [↓RG, RB, BEq.rfl, Int.reduceEq, Int.reduceLT, Int.reduceLE, Nat.reduceEqDiff]
 refine G.joini0 ?_
 unfold comLeave at hK
 refine G.cond (fun h => ?_) (fun h => ?_)
 ·rw [if_pos (by simp at h; omega), ComR_open] at hK
  refine G.drew ?_
  try simp (maxSteps := 2000000) only [↓RG, RB, BEq.rfl, Int.reduceEq, Int.reduceLT, Int.reduceLE, Nat.reduceEqDiff]
  refine s_patience_Patience_Stop (p := x.pat) (rest := x.rest v1 v2 v3 v4) ?_
  try simp (maxSteps := 2000000) only [↓RG, RB, BEq.rfl, Int.reduceEq, Int.reduceLT, Int.reduceLE, Nat.reduceEqDiff]
  exact (hK v1 v2 v3 v4 ⟨h1, h2, h3, h4⟩).sub
 ·rw [if_neg (by simp at h; omega), ComR_open] at hK
  exact (hK v1 v2 v3 v4 ⟨h1, h2, h3, h4⟩).sub
theorem s_commit_Commit_stop {e er by_ : Int} [i : SelOb L ComR b x C] (hK : G w0 (C (ob ComR b (comStop x e er by_))) (K (.tuple #[]))) : G w0 L (CP Tryz.prog Fn.commit_Commit_stop [ptr b 0, i64 e, i64 er, i64 by_] K) := by
 refine i.use (fun M hK => ?_) hK
 refine C_commit_Commit_stop ?_
 unfold S_commit_Commit_stop
 rw [ComR_open]
 rintro v1 v2 v3 v4 ⟨h1, h2, h3, h4⟩
 try simp (maxSteps := 2000000) only [↓RG, RB, BEq.rfl, Int.reduceEq, Int.reduceLT, Int.reduceLE, Nat.reduceEqDiff]
 refine ComR_close b { x with fin := e, err := er, by_ := by_, pos := 0, state := 7 } ⟨h1, h2, h3, h4⟩ ?_
 refine s_commit_Commit_leave (x := { x with fin := e, err := er, by_ := by_, pos := 0, state := 7 }) ?_
 exact hK
theorem s_commit_Commit_held {l : TLock} [i : SelOb L ComR b x C] (hK : G w0 (C (ob ComR b (comHeld x l))) (K (.tuple #[]))) : G w0 L (CP Tryz.prog Fn.commit_Commit_held [ptr b 0, .agg (TLock.cells l).toArray] K) := by
 refine i.use (fun M hK => ?_) hK
 refine C_commit_Commit_held ?_
 unfold S_commit_Commit_held
 refine G.box fun q => ?_
 rw [G_swap, ComR_open]
 rintro v1 v2 v3 v4 ⟨h1, h2, h3, h4⟩
 refine G.drew ?_
 try simp (maxSteps := 2000000) only [↓RG, RB, BEq.rfl, Int.reduceEq, Int.reduceLT, Int.reduceLE, Nat.reduceEqDiff]
 refine s_patience_Patience_Waits (p := x.pat) (x := l) (rest := x.rest v1 v2 v3 v4) ?_
 try simp (maxSteps := 2000000) only [↓RG, RB, BEq.rfl, Int.reduceEq, Int.reduceLT, Int.reduceLE, Nat.reduceEqDiff]
 refine G.joini0 ?_
 unfold comHeld at hK
 cases hw : (x.pat.waits l.owner).2
 ·rw [if_neg (by rw [hw]; decide)] at hK
  try simp (maxSteps := 2000000) only [↓RG, RB, BEq.rfl, Int.reduceEq, Int.reduceLT, Int.reduceLE, Nat.reduceEqDiff]
  refine ComR_close b { x with pat := (x.pat.waits l.owner).1 } ⟨h1, h2, h3, h4⟩ ?_
  refine s_commit_Commit_stop (x := { x with pat := (x.pat.waits l.owner).1 }) ?_
  exact hK.sub
 ·rw [if_pos hw, ComR_open] at hK
  try simp (maxSteps := 2000000) only [↓RG, RB, BEq.rfl, Int.reduceEq, Int.reduceLT, Int.reduceLE, Nat.reduceEqDiff]
  exact (hK v1 v2 v3 v4 ⟨h1, h2, h3, h4⟩).sub
theorem s_commit_Commit_give [i : SelOb L ComR b x C] (hK : G w0 (C (ob ComR b (comGive x))) (K (.tuple #[]))) : G w0 L (CP Tryz.prog Fn.commit_Commit_give [ptr b 0] K) := by
 refine i.use (fun M hK => ?_) hK
 refine C_commit_Commit_give ?_
 unfold S_commit_Commit_give
 rw [ComR_open]
 rintro v1 v2 v3 v4 ⟨h1, h2, h3, h4⟩
 refine G.drew ?_
 try simp (maxSteps := 2000000) only [↓RG, RB, BEq.rfl, Int.reduceEq, Int.reduceLT, Int.reduceLE, Nat.reduceEqDiff]
 refine G.joini0 ?_
 unfold comGive at hK
 refine G.cond (fun h => ?_) (fun h => ?_)
 ·rw [if_pos (by simp at h; omega), ComR_open] at hK
  try simp (maxSteps := 2000000) only [↓RG, RB, BEq.rfl, Int.reduceEq, Int.reduceLT, Int.reduceLE, Nat.reduceEqDiff]
  refine s_patience_Patience_Stop (p := x.pat) (rest := x.rest v1 v2 v3 v4) ?_
  exact (hK v1 v2 v3 v4 ⟨h1, h2, h3, h4⟩).sub
 ·rw [if_neg (by simp at h; omega), ComR_open] at hK
  exact (hK v1 v2 v3 v4 ⟨h1, h2, h3, h4⟩).sub
theorem s_commit_Commit_write [i : SelOb L ComR b x C] (hK : G w0 (C (ob ComR b (comWrite x))) (K (.tuple #[]))) : G w0 L (CP Tryz.prog Fn.commit_Commit_write [ptr b 0] K) := by
 refine i.use (fun M hK => ?_) hK
 refine C_commit_Commit_write ?_
 unfold S_commit_Commit_write
 rw [ComR_open]
 rintro v1 v2 v3 v4 ⟨h1, h2, h3, h4⟩
 refine G.drew ?_
 try simp (maxSteps := 2000000) only [↓RG, RB, BEq.rfl, Int.reduceEq, Int.reduceLT, Int.reduceLE, Nat.reduceEqDiff]
 refine G.joini0 ?_
 unfold comWrite at hK
 refine G.cond (fun h => ?_) (fun h => ?_)
 ·rw [if_pos (by simp at h; omega)] at hK
  try simp (maxSteps := 2000000) only [↓RG, RB, BEq.rfl, Int.reduceEq, Int.reduceLT, Int.reduceLE, Nat.reduceEqDiff]
  refine ComR_close b { x with pos := 0, state := 6 } ⟨h1, h2, h3, h4⟩ ?_
  exact s_commit_Commit_give (x := { x with pos := 0, state := 6 }) hK
 ·rw [if_neg (by simp at h; omega), ComR_open] at hK
  exact (hK v1 v2 v3 v4 ⟨h1, h2, h3, h4⟩).sub
theorem s_commit_Commit_begin [i : SelOb L ComR b x C] (hK : G w0 (C (ob ComR b (comBegin x))) (K (.tuple #[]))) : G w0 L (CP Tryz.prog Fn.commit_Commit_begin [ptr b 0] K) := by
 refine i.use (fun M hK => ?_) hK
 refine C_commit_Commit_begin ?_
 unfold S_commit_Commit_begin
 rw [ComR_open]
 rintro v1 v2 v3 v4 ⟨h1, h2, h3, h4⟩
 try simp (maxSteps := 2000000) only [↓RG, RB, BEq.rfl, Int.reduceEq, Int.reduceLT, Int.reduceLE, Nat.reduceEqDiff]
 refine ComR_close b { x with writing := true, pos := 0, state := 5 } ⟨h1, h2, h3, h4⟩ ?_
 exact s_commit_Commit_write (x := { x with writing := true, pos := 0, state := 5 }) hK
theorem s_commit_Commit_more [i : SelOb L ComR b x C] (hK : G w0 (C (ob ComR b (comMore x))) (K (.tuple #[]))) : G w0 L (CP Tryz.prog Fn.commit_Commit_more [ptr b 0] K) := by
 refine i.use (fun M hK => ?_) hK
 refine C_commit_Commit_more ?_
 unfold S_commit_Commit_more
 rw [ComR_open]
 rintro v1 v2 v3 v4 ⟨h1, h2, h3, h4⟩
 try simp (maxSteps := 2000000) only [↓RG, RB, BEq.rfl, Int.reduceEq, Int.reduceLT, Int.reduceLE, Nat.reduceEqDiff]
 refine G.drew ?_
 try simp (maxSteps := 2000000) only [↓RG, RB, BEq.rfl, Int.reduceEq, Int.reduceLT, Int.reduceLE, Nat.reduceEqDiff]
 refine G.joini0 ?_
 unfold comMore at hK
 refine G.cond (fun h => ?_) (fun h => ?_)
 ·rw [if_pos (by simp at h; omega), ComR_open] at hK
  try simp (maxSteps := 2000000) only [↓RG, RB, BEq.rfl, Int.reduceEq, Int.reduceLT, Int.reduceLE, Nat.reduceEqDiff]
  exact (hK v1 v2 v3 v4 ⟨h1, h2, h3, h4⟩).sub
 ·rw [if_neg (by simp at h; omega), ComR_open] at hK
  exact (hK v1 v2 v3 v4 ⟨h1, h2, h3, h4⟩).sub
theorem s_cmp_Less_int {m n : Int} (hK : G w0 L (K (.bool (decide (m < n))))) : G w0 L (CP Tryz.prog Fn.cmp_Less_int [i64 m, i64 n] K) := by
 refine C_cmp_Less_int ?_
 unfold S_cmp_Less_int
 try simp (maxSteps := 2000000) only [fuse_and, fuse_or, fuse_step, fuse_pair, fuse_in, andP_true]
 refine C_cmp_isNaN_int ?_
 unfold S_cmp_isNaN_int
 refine gr ?_
 exact hK
def lowS : List Int → Int → Nat
 | [], _ => 0
 | s :: l, a => if s < a then lowS l a + 1 else 0
theorem lowS_le {a : Int} : ∀ {l : List Int}, lowS l a ≤ l.length
 | [] => by simp [lowS]
 | s :: l => by unfold lowS; have := lowS_le (a := a) (l := l); simp only [List.length_cons]; split <;> omega
theorem lowS_at {a : Int} : ∀ {l : List Int}, (∀ j (h : j < l.length), j < lowS l a → l[j] < a) ∧ (∀ h : lowS l a < l.length, a ≤ l[lowS l a])
 | [] => ⟨fun j h => by simp at h, fun h => by simp at h⟩
 | s :: l => by
  have ih := lowS_at (a := a) (l := l)
  constructor
  ·intro j h hj
   unfold lowS at hj
   split at hj
   ·rename_i hs
    cases j with
    | zero => simpa using hs
    | succ j => simpa using ih.1 j (by simpa using h) (by omega)
   ·omega
  ·intro h
   unfold lowS at h
   by_cases hs : s < a
   ·have e : lowS (s :: l) a = lowS l a + 1 := by simp [lowS, hs]
    simp only [e]
    rw [if_pos hs] at h
    simpa using ih.2 (by simpa using h)
   ·have e : lowS (s :: l) a = 0 := by simp [lowS, hs]
    simp only [e]
    simpa using (by omega : a ≤ s)
theorem lowS_uniq {a : Int} {l : List Int} {i : Nat} (hi : i ≤ l.length) (h1 : ∀ j (h : j < l.length), j < i → l[j] < a) (h2 : ∀ h : i < l.length, a ≤ l[i]) : lowS l a = i := by
 have ⟨g1, g2⟩ := lowS_at (a := a) (l := l)
 have g0 := lowS_le (a := a) (l := l)
 rcases Nat.lt_trichotomy (lowS l a) i with h | h | h
 ·have := h1 _ (by omega) h; have := g2 (by omega); omega
 ·exact h
 ·have := g1 i (by omega) h; have := h2 (by omega); omega
theorem lowS_idx {a : Int} {l : List Int} (hr : l.Pairwise (· < ·)) : (∀ h : lowS l a < l.length, l[lowS l a] = a → idxS l a = some (lowS l a)) ∧ ((lowS l a < l.length → l[lowS l a]? ≠ some a) → idxS l a = none) := by
 have ⟨g1, g2⟩ := lowS_at (a := a) (l := l)
 refine ⟨fun h e => idxS_rising hr (by rw [List.getElem?_eq_getElem h, e]), fun h => ?_⟩
 rw [idxS_none]
 intro hm
 obtain ⟨j, hj, e⟩ := List.getElem_of_mem hm
 have hle : lowS l a ≤ j := by
  rcases Nat.lt_or_ge j (lowS l a) with g | g
  ·have := g1 j hj g; omega
  ·exact g
 have hlt : lowS l a < l.length := by omega
 have h3 := h hlt
 rw [List.getElem?_eq_getElem hlt] at h3
 have h4 := g2 hlt
 rcases Nat.lt_or_ge (lowS l a) j with g | g
 ·have := List.pairwise_iff_getElem.1 hr _ j hlt hj g; omega
 ·have : lowS l a = j := by omega
  exact h3 (by simp only [this, e])
theorem half (i j : Nat) (h : i ≤ j) (hj : j ≤ 1000000) : IntKind.wrap .i64 ((IntKind.wrap .u64 (IntKind.wrap .i64 ((i : Int) + j))).fdiv (2 ^ min (1 : Int).toNat IntKind.u64.bits)) = (((i + j) / 2 : Nat) : Int) := by
 rw [wi64 (n := (i : Int) + j) (by omega) (by omega), wu64 (by omega) (by omega)]
 have : (2 : Int) ^ min (1 : Int).toNat IntKind.u64.bits = 2 := by decide
 rw [this, Int.fdiv_eq_ediv_of_nonneg _ (by decide), wi64 (by omega) (by omega)]
 omega
theorem s_slices_BinarySearch_int {v : Value} {l : List Int} {a : Int} [r : Rd w0 L v intE 1 l] (hr : l.Pairwise (· < ·)) (hl : l.length ≤ 1000000)
  (hK : G w0 L (K (.tuple #[i64 (lowS l a), .bool (idxS l a).isSome]))) : G w0 L (CP Tryz.prog Fn.slices_BinarySearch_int_int [v, i64 a] K) := by
 refine C_slices_BinarySearch_int_int ?_
 unfold S_slices_BinarySearch_int_int
 try simp (maxSteps := 2000000) only [fuse_and, fuse_or, fuse_step, fuse_pair, fuse_in, andP_true]
 refine gr ?_
 refine G.loop2 (σ := Nat × Nat) (fun z => i64 z.1) (fun z => i64 z.2) (fun _ => L) (fun z => z.1 ≤ z.2 ∧ z.2 ≤ l.length ∧ (∀ j (h : j < l.length), j < z.1 → l[j] < a) ∧ (∀ j (h : j < l.length), z.2 ≤ j → a ≤ l[j])) (fun z => z.2 - z.1) (0, l.length) rfl rfl rfl ⟨by simp, by simp, fun j h hj => by simp at hj, fun j h hj => by simp only at hj; omega⟩ ?_
 rintro ⟨i, j⟩ ⟨hij, hjl, p1, p2⟩ J hJ
 simp only at hij hjl p1 p2 hJ ⊢
 refine gr ?_
 refine G.cond (fun h => ?_) (fun h => ?_)
 ·have hlt : i < j := by simpa using h
  have hm : (i + j) / 2 < l.length := by omega
  have e := elem_of hm
  rw [half i j hij (by omega)]
  refine gr ?_
  refine s_cmp_Less_int ?_
  refine G.joini2 ?_
  refine G.cond (fun h2 => ?_) (fun h2 => ?_)
  ·have h3 : l[(i + j) / 2] < a := by simpa using h2
   refine gr ?_
   rw [wsucc (by omega)]
   exact hJ ((i + j) / 2 + 1, j) ⟨by simp only; omega, hjl, fun k hk hk2 => by
    rcases Nat.lt_or_ge k ((i + j) / 2) with g | g
    ·have := List.pairwise_iff_getElem.1 hr k _ hk hm g; omega
    ·have : k = (i + j) / 2 := by simp only at hk2; omega
     subst this; exact h3, p2⟩ (by simp only; omega)
  ·have h3 : ¬ l[(i + j) / 2] < a := by simpa using h2
   exact hJ (i, (i + j) / 2) ⟨by simp only; omega, by simp only; omega, p1, fun k hk hk2 => by
    rcases Nat.lt_or_ge ((i + j) / 2) k with g | g
    ·have := List.pairwise_iff_getElem.1 hr _ k hm hk g; omega
    ·have : k = (i + j) / 2 := by simp only at hk2; omega
     subst this; omega⟩ (by simp only; omega)
 ·have hij2 : i = j := by simp at h; omega
  subst hij2
  have hlo : lowS l a = i := lowS_uniq hjl p1 (fun h => p2 i h (Nat.le_refl _))
  have ⟨q1, q2⟩ := lowS_idx (a := a) hr
  rw [hlo] at hK q2
  by_cases hi : i < l.length
  ·have e := elem_of hi
   have hi3 : (i : Int) < (l.length : Int) := by omega
   by_cases he : l[i] = a
   ·have : idxS l a = some i := by
     have := q1 (by rw [hlo]; exact hi) (by simp only [hlo]; exact he)
     rwa [hlo] at this
    rw [this] at hK
    refine grf (an hi3 he) ?_
    exact hK
   ·have : idxS l a = none := q2 (fun h => by rw [List.getElem?_eq_getElem h]; simpa using he)
    rw [this] at hK
    have ha2 : ¬ (i : Int) < (i : Int) := by omega
    refine grf (an hi3 he) ?_
    refine C_slices_isNaN_int ?_
    unfold S_slices_isNaN_int
    refine gr ?_
    exact hK
  ·have : idxS l a = none := q2 (fun h => absurd h hi)
   rw [this] at hK
   have hi3 : ¬ (i : Int) < (l.length : Int) := by omega
   refine grf hi3 ?_
   exact hK
theorem s_commit_Commit_End [i : SelOb L ComR b x C] (hK : G w0 L (K (i64 x.pat.fin))) : G w0 L (CP Tryz.prog Fn.commit_Commit_End [ptr b 0] K) := by
 refine i.ro (fun M hK => ?_) hK
 rw [ComR_open] at *
 rintro v1 v2 v3 v4 hv
 refine C_commit_Commit_End ?_
 unfold S_commit_Commit_End
 try simp (maxSteps := 2000000) only [↓RG, RB, BEq.rfl, Int.reduceEq, Int.reduceLT, Int.reduceLE, Nat.reduceEqDiff]
 refine s_patience_Patience_End (p := x.pat) (rest := x.rest v1 v2 v3 v4) ?_
 exact hK v1 v2 v3 v4 hv
theorem s_commit_Commit_Err [i : SelOb L ComR b x C] (hK : G w0 L (K (i64 x.pat.err))) : G w0 L (CP Tryz.prog Fn.commit_Commit_Err [ptr b 0] K) := by
 refine i.ro (fun M hK => ?_) hK
 rw [ComR_open] at *
 rintro v1 v2 v3 v4 hv
 refine C_commit_Commit_Err ?_
 unfold S_commit_Commit_Err
 try simp (maxSteps := 2000000) only [↓RG, RB, BEq.rfl, Int.reduceEq, Int.reduceLT, Int.reduceLE, Nat.reduceEqDiff]
 refine s_patience_Patience_Err (p := x.pat) (rest := x.rest v1 v2 v3 v4) ?_
 exact hK v1 v2 v3 v4 hv
theorem s_commit_Commit_By [i : SelOb L ComR b x C] (hK : G w0 L (K (i64 x.pat.by_))) : G w0 L (CP Tryz.prog Fn.commit_Commit_By [ptr b 0] K) := by
 refine i.ro (fun M hK => ?_) hK
 rw [ComR_open] at *
 rintro v1 v2 v3 v4 hv
 refine C_commit_Commit_By ?_
 unfold S_commit_Commit_By
 try simp (maxSteps := 2000000) only [↓RG, RB, BEq.rfl, Int.reduceEq, Int.reduceLT, Int.reduceLE, Nat.reduceEqDiff]
 refine s_patience_Patience_By (p := x.pat) (rest := x.rest v1 v2 v3 v4) ?_
 exact hK v1 v2 v3 v4 hv
theorem s_commit_Commit_Stamp [i : SelOb L ComR b x C] (hK : G w0 L (K (u64 (if x.writing = true then IntKind.wrap .u64 (x.now + 1) else 0)))) : G w0 L (CP Tryz.prog Fn.commit_Commit_Stamp [ptr b 0] K) := by
 refine i.ro (fun M hK => ?_) hK
 rw [ComR_open] at *
 rintro v1 v2 v3 v4 hv
 refine C_commit_Commit_Stamp ?_
 unfold S_commit_Commit_Stamp
 cases hw : x.writing
 ·refine grf hw ?_
  have h := hK v1 v2 v3 v4 hv
  simp only [hw] at h
  exact h
 ·refine grf hw ?_
  have h := hK v1 v2 v3 v4 hv
  simp only [hw] at h
  exact h
theorem s_commit_Commit_Writing [i : SelOb L ComR b x C] (hK : G w0 L (K (.bool (x.writing && decide (x.pat.fin = 0))))) : G w0 L (CP Tryz.prog Fn.commit_Commit_Writing [ptr b 0] K) := by
 refine i.ro (fun M hK => ?_) hK
 rw [ComR_open] at *
 rintro v1 v2 v3 v4 hv
 refine C_commit_Commit_Writing ?_
 unfold S_commit_Commit_Writing
 have h := hK v1 v2 v3 v4 hv
 cases hw : x.writing
 ·simp only [hw] at h
  refine grf hw ?_
  exact h
 ·simp only [hw, Bool.true_and] at h
  refine grf hw ?_
  refine C_commit_Commit_End ?_
  unfold S_commit_Commit_End
  refine gr ?_
  refine s_patience_Patience_End (p := x.pat) (rest := x.rest v1 v2 v3 v4) ?_
  refine gr ?_
  exact h
theorem s_commit_Commit_prove (hl : ComLen x) (hw : x.was.length = x.stripes.length) (hp : x.pos ≤ x.seen.length) [i : SelOb L ComR b x C] (hK : G w0 (C (ob ComR b (comProve x))) (K (.tuple #[]))) : G w0 L (CP Tryz.prog Fn.commit_Commit_prove [ptr b 0] K) := by
 refine i.use (fun M hK => ?_) hK
 refine C_commit_Commit_prove ?_
 unfold S_commit_Commit_prove
 have hfew := hl.few
 have hseen := hl.seen
 rw [ComR_open]
 rintro v1 v2 v3 v4 ⟨h1, h2, h3, h4⟩
 try simp (maxSteps := 2000000) only [↓RG, RB, BEq.rfl, Int.reduceEq, Int.reduceLT, Int.reduceLE, Nat.reduceEqDiff]
 refine ComR_close b { x with state := 4 } ⟨h1, h2, h3, h4⟩ ?_
 refine G.loop0 (σ := Nat) (fun k => ob ComR b { x with state := 4, pos := k } :: M) (fun k => x.pos ≤ k ∧ k ≤ x.seen.length ∧ comProve x = proveN (x.seen.length - k) { x with state := 4, pos := k }) (fun k => x.seen.length - k) x.pos rfl ⟨Nat.le_refl _, hp, rfl⟩ ?_
 rintro k ⟨hk1, hk2, hpr⟩ J hJ
 rw [hpr] at hK
 rw [ComR_open]
 rintro v1 v2 v3 v4 ⟨h1, h2, h3, h4⟩
 refine G.drew ?_
 try simp (maxSteps := 2000000) only [↓RG, RB, BEq.rfl, Int.reduceEq, Int.reduceLT, Int.reduceLE, Nat.reduceEqDiff]
 refine G.cond (fun h => ?_) (fun h => ?_)
 ·have hk3 : k < x.seen.length := by simpa using h
  have e := elem_of hk3
  have hg : x.seen.getD k ⟨0, 0⟩ = x.seen[k] := by simp [hk3]
  rw [show x.seen.length - k = (x.seen.length - (k + 1)) + 1 by omega] at hK hpr
  unfold proveN at hK hpr
  simp only [hg, ownV] at hK hpr
  refine G.drew ?_
  try simp (maxSteps := 2000000) only [↓RG, RB, BEq.rfl, Int.reduceEq, Int.reduceLT, Int.reduceLE, Nat.reduceEqDiff]
  refine s_slices_BinarySearch_int (l := x.stripes) hl.rising (by omega) ?_
  try simp (maxSteps := 2000000) only [↓RG, RB, BEq.rfl, Int.reduceEq, Int.reduceLT, Int.reduceLE, Nat.reduceEqDiff]
  cases hi : idxS x.stripes x.seen[k].stripe with
  | none =>
   rw [hi] at hK
   simp only [Option.map_none] at hK
   try simp (maxSteps := 2000000) only [↓RG, RB, BEq.rfl, Int.reduceEq, Int.reduceLT, Int.reduceLE, Nat.reduceEqDiff, Option.isSome_none]
   rw [ComR_open] at hK
   exact (hK v1 v2 v3 v4 ⟨h1, h2, h3, h4⟩).sub
  | some j =>
   have hj := idxS_lt hi
   have hlo : lowS x.stripes x.seen[k].stripe = j := by
    have ⟨g1, g2⟩ := lowS_idx (a := x.seen[k].stripe) hl.rising
    have g3 := lowS_le (a := x.seen[k].stripe) (l := x.stripes)
    by_cases hc : lowS x.stripes x.seen[k].stripe < x.stripes.length
    ·by_cases he : x.stripes[lowS x.stripes x.seen[k].stripe] = x.seen[k].stripe
     ·have := g1 hc he; rw [hi] at this; cases this; rfl
     ·have := g2 (fun h => by rw [List.getElem?_eq_getElem h]; simpa using he); rw [hi] at this; cases this
    ·have := g2 (fun h => absurd h hc); rw [hi] at this; cases this
   have hj2 : j < x.was.length := by omega
   have e2 := elem_of hj2
   have hgw : x.was.getD j zeroLock = x.was[j] := by simp [hj2]
   rw [hi] at hK hpr
   simp only [Option.map_some, hgw] at hK hpr
   rw [hlo]
   try simp (maxSteps := 2000000) only [↓RG, RB, BEq.rfl, Int.reduceEq, Int.reduceLT, Int.reduceLE, Nat.reduceEqDiff, Option.isSome_some]
   refine G.drew ?_
   try simp (maxSteps := 2000000) only [↓RG, RB, BEq.rfl, Int.reduceEq, Int.reduceLT, Int.reduceLE, Nat.reduceEqDiff]
   by_cases hv : x.was[j].version = x.seen[k].version
   ·rw [if_pos hv] at hpr
    try simp (maxSteps := 2000000) only [↓RG, RB, BEq.rfl, Int.reduceEq, Int.reduceLT, Int.reduceLE, Nat.reduceEqDiff, hv]
    rw [wsucc (by omega)]
    refine ComR_close b { x with state := 4, pos := k + 1 } ⟨h1, h2, h3, h4⟩ ?_
    exact hJ (k + 1) ⟨by omega, by omega, hpr⟩ (by omega)
   ·rw [if_neg hv] at hK
    try simp (maxSteps := 2000000) only [↓RG, RB, BEq.rfl, Int.reduceEq, Int.reduceLT, Int.reduceLE, Nat.reduceEqDiff, hv]
    refine ComR_close b { x with state := 4, pos := k } ⟨h1, h2, h3, h4⟩ ?_
    refine s_commit_Commit_stop (x := { x with state := 4, pos := k }) ?_
    exact hK
 ·have hk3 : k = x.seen.length := by simp at h; omega
  subst hk3
  rw [Nat.sub_self] at hK
  unfold proveN at hK
  refine ComR_close b { x with state := 4, pos := x.seen.length } ⟨h1, h2, h3, h4⟩ ?_
  refine s_commit_Commit_begin (x := { x with state := 4, pos := x.seen.length }) ?_
  exact hK
theorem s_commit_Commit_take {a : TAns} (hl : ComLen x) [i : SelOb L ComR b x C] (hK : G w0 (C (ob ComR b (comTake x a))) (K (.tuple #[]))) : G w0 L (CP Tryz.prog Fn.commit_Commit_take [ptr b 0, .agg (TAns.cells a).toArray] K) := by
 refine i.use (fun M hK => ?_) hK
 refine C_commit_Commit_take ?_
 unfold S_commit_Commit_take
 have hfew := hl.few
 have hwas := hl.was
 try simp (maxSteps := 2000000) only [fuse_and, fuse_or, fuse_step, fuse_pair, fuse_in, andP_true]
 refine G.box fun q => ?_
 rw [G_swap, ComR_open]
 rintro v1 v2 v3 v4 ⟨h1, h2, h3, h4⟩
 refine gr ?_
 unfold comTake at hK
 by_cases hs : x.state = 0
 ·rw [if_pos hs] at hK
  cases hh : a.lock.held
  ·rw [if_neg (by rw [hh]; decide), ComR_open] at hK
   repeat' (first | (with_reducible refine G.joini0 ?_) | (with_reducible refine G.joini1 ?_) | (with_reducible refine G.drew ?_) | (simp (maxSteps := 2000000) only [↓RG, RP, RB, BEq.rfl, Int.reduceEq, Int.reduceLT, Int.reduceLE, Nat.reduceEqDiff, eq_true hs, condHF hh]))
   exact (hK v1 v2 v3 v4 ⟨h1, h2, h3, h4⟩).sub
  ·rw [if_pos hh] at hK
   repeat' (first | (with_reducible refine G.joini0 ?_) | (with_reducible refine G.joini1 ?_) | (with_reducible refine G.drew ?_) | (simp (maxSteps := 2000000) only [↓RG, RP, RB, BEq.rfl, Int.reduceEq, Int.reduceLT, Int.reduceLE, Nat.reduceEqDiff, eq_true hs, condHT hh]))
   refine ComR_close b x ⟨h1, h2, h3, h4⟩ ?_
   refine s_commit_Commit_held (x := x) (l := a.lock) ?_
   exact hK.sub
 ·rw [if_neg hs] at hK
  cases hd : a.done
  ·rw [if_neg (by rw [hd]; decide), ComR_open] at hK
   repeat' (first | (with_reducible refine G.joini0 ?_) | (with_reducible refine G.joini1 ?_) | (with_reducible refine G.drew ?_) | (simp (maxSteps := 2000000) only [↓RG, RP, RB, BEq.rfl, Int.reduceEq, Int.reduceLT, Int.reduceLE, Nat.reduceEqDiff, hs, condHF hd]))
   exact (hK v1 v2 v3 v4 ⟨h1, h2, h3, h4⟩).sub
  ·rw [if_pos hd] at hK
   repeat' (first | (with_reducible refine G.joini0 ?_) | (with_reducible refine G.joini1 ?_) | (with_reducible refine G.drew ?_) | (simp (maxSteps := 2000000) only [↓RG, RP, RB, BEq.rfl, Int.reduceEq, Int.reduceLT, Int.reduceLE, Nat.reduceEqDiff, hs, condHT hd]))
   refine G.build tLockE [x.lock] rfl (by simp) rfl fun v6 h6 => ?_
   refine gg ?_
   refine G.append (xs := x.was) (ys := [x.lock]) (by simp; omega) (by simp [maxLen]; omega) fun v5 h5 => ?_
   refine gg ?_
   refine ComR_close b { x with was := x.was ++ [x.lock] } ⟨h1, h2, h3, h5⟩ ?_
   refine s_commit_Commit_more (x := { x with was := x.was ++ [x.lock] }) ?_
   exact hK.sub
theorem s_commit_Commit_raise {a : TAns} (hl : ComLen x) (hg : x.state = 3 → x.was.length = x.stripes.length ∧ x.pos = 0) [i : SelOb L ComR b x C] (hs : x.state = 2 ∨ x.state = 3) (hK : G w0 (C (ob ComR b (comRaise x a))) (K (.tuple #[]))) : G w0 L (CP Tryz.prog Fn.commit_Commit_raise [ptr b 0, .agg (TAns.cells a).toArray] K) := by
 refine i.use (fun M hK => ?_) hK
 refine C_commit_Commit_raise ?_
 unfold S_commit_Commit_raise
 try simp (maxSteps := 2000000) only [fuse_and, fuse_or, fuse_step, fuse_pair, fuse_in, andP_true]
 refine G.box fun q => ?_
 rw [G_swap, ComR_open]
 rintro v1 v2 v3 v4 ⟨h1, h2, h3, h4⟩
 refine gr ?_
 unfold comRaise at hK
 by_cases hs2 : x.state = 2
 ·rw [if_pos hs2] at hK
  by_cases hc : 4611686018427387903 ≤ a.word
  ·rw [if_pos hc] at hK
   refine gf (an (eq_true hs2) hc) ?_
   refine ComR_close b x ⟨h1, h2, h3, h4⟩ ?_
   refine s_commit_Commit_stop (x := x) ?_
   exact hK.sub
  ·rw [if_neg hc, ComR_open] at hK
   repeat' (first | (with_reducible refine G.joini0 ?_) | (with_reducible refine G.joini1 ?_) | (with_reducible refine G.drew ?_) | (simp (maxSteps := 2000000) only [↓RG, RP, RB, BEq.rfl, Int.reduceEq, Int.reduceLT, Int.reduceLE, Nat.reduceEqDiff, eq_true hs2, hc]))
   exact (hK v1 v2 v3 v4 ⟨h1, h2, h3, h4⟩).sub
 ·rw [if_neg hs2] at hK
  have hs3 : x.state = 3 := by omega
  have g := hg hs3
  cases hd : a.done
  ·rw [if_pos hd, ComR_open] at hK
   repeat' (first | (with_reducible refine G.joini0 ?_) | (with_reducible refine G.joini1 ?_) | (with_reducible refine G.drew ?_) | (simp (maxSteps := 2000000) only [↓RG, RP, RB, BEq.rfl, Int.reduceEq, Int.reduceLT, Int.reduceLE, Nat.reduceEqDiff, hs2, condHNF hd]))
   exact (hK v1 v2 v3 v4 ⟨h1, h2, h3, h4⟩).sub
  ·rw [if_neg (by rw [hd]; decide)] at hK
   by_cases hn : x.now = x.stamp
   ·rw [if_pos hn] at hK
    repeat' (first | (with_reducible refine G.joini0 ?_) | (with_reducible refine G.joini1 ?_) | (with_reducible refine G.drew ?_) | (simp (maxSteps := 2000000) only [↓RG, RP, RB, BEq.rfl, Int.reduceEq, Int.reduceLT, Int.reduceLE, Nat.reduceEqDiff, hs2, condHNT hd, eq_true hn]))
    refine ComR_close b x ⟨h1, h2, h3, h4⟩ ?_
    refine s_commit_Commit_begin (x := x) ?_
    exact hK.sub
   ·rw [if_neg hn] at hK
    repeat' (first | (with_reducible refine G.joini0 ?_) | (with_reducible refine G.joini1 ?_) | (with_reducible refine G.drew ?_) | (simp (maxSteps := 2000000) only [↓RG, RP, RB, BEq.rfl, Int.reduceEq, Int.reduceLT, Int.reduceLE, Nat.reduceEqDiff, hs2, condHNT hd, hn]))
    refine ComR_close b x ⟨h1, h2, h3, h4⟩ ?_
    refine s_commit_Commit_prove (x := x) hl g.1 (by omega) ?_
    exact hK.sub
theorem s_commit_Commit_proved {l : TLock} (hl : ComLen x) (hw : x.was.length = x.stripes.length) (hp : x.pos < x.seen.length) [i : SelOb L ComR b x C] (hK : G w0 (C (ob ComR b (comProved x l))) (K (.tuple #[]))) : G w0 L (CP Tryz.prog Fn.commit_Commit_proved [ptr b 0, .agg (TLock.cells l).toArray] K) := by
 refine i.use (fun M hK => ?_) hK
 refine C_commit_Commit_proved ?_
 unfold S_commit_Commit_proved
 have hseen := hl.seen
 refine G.box fun q => ?_
 rw [G_swap, ComR_open]
 rintro v1 v2 v3 v4 ⟨h1, h2, h3, h4⟩
 have e := elem_of hp
 have hg : x.seen.getD x.pos ⟨0, 0⟩ = x.seen[x.pos] := by simp [hp]
 unfold comProved at hK
 rw [hg] at hK
 cases hh : l.held
 ·rw [if_neg (by rw [hh]; decide)] at hK
  repeat' (first | (with_reducible refine G.joini0 ?_) | (with_reducible refine G.joini1 ?_) | (with_reducible refine G.drew ?_) | (simp (maxSteps := 2000000) only [↓RG, RP, RB, BEq.rfl, Int.reduceEq, Int.reduceLT, Int.reduceLE, Nat.reduceEqDiff, condHF hh]))
  by_cases hv : l.version = x.seen[x.pos].version
  ·rw [if_pos hv] at hK
   refine gf (eq_true hv) ?_
   rw [wsucc (by omega)]
   refine ComR_close b { x with pos := x.pos + 1 } ⟨h1, h2, h3, h4⟩ ?_
   refine s_commit_Commit_prove (x := { x with pos := x.pos + 1 }) (hl.eqs rfl rfl rfl rfl) hw hp ?_
   exact hK.sub
  ·rw [if_neg hv] at hK
   refine gf hv ?_
   refine ComR_close b x ⟨h1, h2, h3, h4⟩ ?_
   refine s_commit_Commit_stop (x := x) ?_
   exact hK.sub
 ·rw [if_pos hh] at hK
  repeat' (first | (with_reducible refine G.joini0 ?_) | (with_reducible refine G.joini1 ?_) | (with_reducible refine G.drew ?_) | (simp (maxSteps := 2000000) only [↓RG, RP, RB, BEq.rfl, Int.reduceEq, Int.reduceLT, Int.reduceLE, Nat.reduceEqDiff, condHT hh]))
  refine ComR_close b x ⟨h1, h2, h3, h4⟩ ?_
  refine s_commit_Commit_held (x := x) (l := l) ?_
  exact hK.sub
theorem s_commit_Commit_Tell {a : TAns} (ho : ComOk x) [i : SelOb L ComR b x C] (hK : G w0 (C (ob ComR b (comTell x a))) (K (.tuple #[]))) : G w0 L (CP Tryz.prog Fn.commit_Commit_Tell [ptr b 0, .agg (TAns.cells a).toArray] K) := by
 refine i.use (fun M hK => ?_) hK
 refine C_commit_Commit_Tell ?_
 unfold S_commit_Commit_Tell
 have hpos := ho.pos
 have hst := ho.st
 refine G.box fun q => ?_
 rw [G_swap, ComR_open]
 rintro v1 v2 v3 v4 ⟨h1, h2, h3, h4⟩
 refine G.drew ?_
 try simp (maxSteps := 2000000) only [↓RG, RB, BEq.rfl, Int.reduceEq, Int.reduceLT, Int.reduceLE, Nat.reduceEqDiff]
 refine s_patience_Patience_Stopped (p := x.pat) (a := a) (rest := x.rest v1 v2 v3 v4) ?_
 unfold comTell at hK
 by_cases hs : (x.pat.stopped a.err).fin = 0
 ·have hp : x.pat.stopped a.err = x.pat := by
   unfold Pat.stopped at hs ⊢; split
   ·rename_i h; rw [if_pos h] at hs; simp [Pat.stop] at hs
   ·rfl
  rw [if_pos hs] at hK
  rw [hp] at hs
  rw [hp]
  obtain ⟨g01, g23, g4, g5, g6, g7⟩ := ho.here hs
  by_cases c0 : x.state = 0
  ·rw [if_pos (.inl c0)] at hK
   repeat' (first | (with_reducible refine G.joini0 ?_) | (with_reducible refine G.joini1 ?_) | (with_reducible refine G.drew ?_) | (simp (maxSteps := 2000000) only [↓RG, RP, RB, BEq.rfl, Int.reduceEq, Int.reduceLT, Int.reduceLE, Nat.reduceEqDiff, eq_true hs, eq_true c0]))
   refine ComR_close b x ⟨h1, h2, h3, h4⟩ ?_
   refine s_commit_Commit_take (x := x) (a := a) ho.len ?_
   exact hK.sub
  by_cases c1 : x.state = 1
  ·rw [if_pos (.inr c1)] at hK
   repeat' (first | (with_reducible refine G.joini0 ?_) | (with_reducible refine G.joini1 ?_) | (with_reducible refine G.drew ?_) | (simp (maxSteps := 2000000) only [↓RG, RP, RB, BEq.rfl, Int.reduceEq, Int.reduceLT, Int.reduceLE, Nat.reduceEqDiff, eq_true hs, eq_true c1, c0]))
   refine ComR_close b x ⟨h1, h2, h3, h4⟩ ?_
   refine s_commit_Commit_take (x := x) (a := a) ho.len ?_
   exact hK.sub
  rw [if_neg (by omega)] at hK
  by_cases c2 : x.state = 2
  ·rw [if_pos (.inl c2)] at hK
   repeat' (first | (with_reducible refine G.joini0 ?_) | (with_reducible refine G.joini1 ?_) | (with_reducible refine G.drew ?_) | (simp (maxSteps := 2000000) only [↓RG, RP, RB, BEq.rfl, Int.reduceEq, Int.reduceLT, Int.reduceLE, Nat.reduceEqDiff, eq_true hs, eq_true c2, c0, c1]))
   refine ComR_close b x ⟨h1, h2, h3, h4⟩ ?_
   refine s_commit_Commit_raise (x := x) (a := a) ho.len (fun h => g23 (.inr h)) (.inl c2) ?_
   exact hK.sub
  by_cases c3 : x.state = 3
  ·rw [if_pos (.inr c3)] at hK
   repeat' (first | (with_reducible refine G.joini0 ?_) | (with_reducible refine G.joini1 ?_) | (with_reducible refine G.drew ?_) | (simp (maxSteps := 2000000) only [↓RG, RP, RB, BEq.rfl, Int.reduceEq, Int.reduceLT, Int.reduceLE, Nat.reduceEqDiff, eq_true hs, eq_true c3, c0, c1, c2]))
   refine ComR_close b x ⟨h1, h2, h3, h4⟩ ?_
   refine s_commit_Commit_raise (x := x) (a := a) ho.len (fun h => g23 (.inr h)) (.inr c3) ?_
   exact hK.sub
  rw [if_neg (by omega)] at hK
  by_cases c4 : x.state = 4
  ·rw [if_pos c4] at hK
   repeat' (first | (with_reducible refine G.joini0 ?_) | (with_reducible refine G.joini1 ?_) | (with_reducible refine G.drew ?_) | (simp (maxSteps := 2000000) only [↓RG, RP, RB, BEq.rfl, Int.reduceEq, Int.reduceLT, Int.reduceLE, Nat.reduceEqDiff, eq_true hs, eq_true c4, c0, c1, c2, c3]))
   refine ComR_close b x ⟨h1, h2, h3, h4⟩ ?_
   refine s_commit_Commit_proved (x := x) (l := a.lock) ho.len (g4 c4).1 (g4 c4).2 ?_
   exact hK.sub
  rw [if_neg c4] at hK
  by_cases c5 : x.state = 5
  ·rw [if_pos c5] at hK
   repeat' (first | (with_reducible refine G.joini0 ?_) | (with_reducible refine G.joini1 ?_) | (with_reducible refine G.drew ?_) | (simp (maxSteps := 2000000) only [↓RG, RP, RB, BEq.rfl, Int.reduceEq, Int.reduceLT, Int.reduceLE, Nat.reduceEqDiff, eq_true hs, eq_true c5, c0, c1, c2, c3, c4]))
   rw [wsucc (by omega)]
   refine ComR_close b { x with pos := x.pos + 1 } ⟨h1, h2, h3, h4⟩ ?_
   refine s_commit_Commit_write (x := { x with pos := x.pos + 1 }) ?_
   exact hK.sub
  rw [if_neg c5] at hK
  by_cases c6 : x.state = 6
  ·rw [if_pos c6] at hK
   repeat' (first | (with_reducible refine G.joini0 ?_) | (with_reducible refine G.joini1 ?_) | (with_reducible refine G.drew ?_) | (simp (maxSteps := 2000000) only [↓RG, RP, RB, BEq.rfl, Int.reduceEq, Int.reduceLT, Int.reduceLE, Nat.reduceEqDiff, eq_true hs, eq_true c6, c0, c1, c2, c3, c4, c5]))
   rw [wsucc (by omega)]
   refine ComR_close b { x with pos := x.pos + 1 } ⟨h1, h2, h3, h4⟩ ?_
   refine s_commit_Commit_give (x := { x with pos := x.pos + 1 }) ?_
   exact hK.sub
  rw [if_neg c6] at hK
  have c7 : x.state = 7 := by omega
  repeat' (first | (with_reducible refine G.joini0 ?_) | (with_reducible refine G.joini1 ?_) | (with_reducible refine G.drew ?_) | (simp (maxSteps := 2000000) only [↓RG, RP, RB, BEq.rfl, Int.reduceEq, Int.reduceLT, Int.reduceLE, Nat.reduceEqDiff, eq_true hs, eq_true c7, c0, c1, c2, c3, c4, c5, c6]))
  rw [wsucc (by omega)]
  refine ComR_close b { x with pos := x.pos + 1 } ⟨h1, h2, h3, h4⟩ ?_
  refine s_commit_Commit_leave (x := { x with pos := x.pos + 1 }) ?_
  exact hK.sub
 ·rw [if_neg hs, ComR_open] at hK
  refine gf hs ?_
  exact (hK v1 v2 v3 v4 ⟨h1, h2, h3, h4⟩).sub
theorem s_commit_Commit_Next (ho : ComOk x) [i : SelOb L ComR b x C] (hK : G w0 L (K (.tuple #[.agg (TOp.cells (comNext x).1).toArray, .bool (comNext x).2]))) : G w0 L (CP Tryz.prog Fn.commit_Commit_Next [ptr b 0] K) := by
 refine i.ro (fun M hK => ?_) hK
 rw [ComR_open] at *
 rintro v1 v2 v3 v4 hv
 have hK := hK v1 v2 v3 v4 hv
 have hst := ho.st
 have hwas := ho.len.was
 refine C_commit_Commit_Next ?_
 unfold S_commit_Commit_Next
 refine G.new fun q => ?_
 try simp (maxSteps := 2000000) only [↓RG, RB, BEq.rfl, Int.reduceEq, Int.reduceLT, Int.reduceLE, Nat.reduceEqDiff]
 refine s_patience_Patience_End (p := x.pat) (rest := x.rest v1 v2 v3 v4) ?_
 unfold comNext at hK
 by_cases hf : x.pat.fin = 0
 ·rw [if_pos hf] at hK
  obtain ⟨g01, g23, g4, g5, g6, g7⟩ := ho.here hf
  by_cases c0 : x.state = 0
  ·rw [if_pos c0] at hK
   have hp := (g01 (.inl c0)).1
   have e := elem_of hp
   have hg : x.stripes.getD x.was.length 0 = x.stripes[x.was.length] := by simp [hp]
   rw [hg] at hK
   repeat' (first | (with_reducible refine G.joini0 ?_) | (with_reducible refine G.joini1 ?_) | (with_reducible refine G.drew ?_) | (simp (maxSteps := 2000000) only [↓RG, RP, RB, BEq.rfl, Int.reduceEq, Int.reduceLT, Int.reduceLE, Nat.reduceEqDiff, eq_true hf, eq_true c0]))
   exact hK.sub
  rw [if_neg c0] at hK
  by_cases c1 : x.state = 1
  ·rw [if_pos c1] at hK
   have hp := (g01 (.inr c1)).1
   have e := elem_of hp
   have hg : x.stripes.getD x.was.length 0 = x.stripes[x.was.length] := by simp [hp]
   rw [hg] at hK
   repeat' (first | (with_reducible refine G.joini0 ?_) | (with_reducible refine G.joini1 ?_) | (with_reducible refine G.drew ?_) | (simp (maxSteps := 2000000) only [↓RG, RP, RB, BEq.rfl, Int.reduceEq, Int.reduceLT, Int.reduceLE, Nat.reduceEqDiff, eq_true hf, eq_true c1, c0]))
   refine G.new fun q2 => ?_
   repeat' (first | (with_reducible refine G.joini0 ?_) | (with_reducible refine G.joini1 ?_) | (with_reducible refine G.drew ?_) | (simp (maxSteps := 2000000) only [↓RG, RP, RB, BEq.rfl, Int.reduceEq, Int.reduceLT, Int.reduceLE, Nat.reduceEqDiff]))
   exact hK.sub
  rw [if_neg c1] at hK
  by_cases c2 : x.state = 2
  ·rw [if_pos c2] at hK
   refine gf (an (eq_true hf) (an (eq_true c2) (an c0 c1))) ?_
   exact hK.sub
  rw [if_neg c2] at hK
  by_cases c3 : x.state = 3
  ·rw [if_pos c3] at hK
   repeat' (first | (with_reducible refine G.joini0 ?_) | (with_reducible refine G.joini1 ?_) | (with_reducible refine G.drew ?_) | (simp (maxSteps := 2000000) only [↓RG, RP, RB, BEq.rfl, Int.reduceEq, Int.reduceLT, Int.reduceLE, Nat.reduceEqDiff, eq_true hf, eq_true c3, c0, c1, c2]))
   exact hK.sub
  rw [if_neg c3] at hK
  by_cases c4 : x.state = 4
  ·rw [if_pos c4] at hK
   have hp := (g4 c4).2
   have e := elem_of hp
   have hg : x.seen.getD x.pos ⟨0, 0⟩ = x.seen[x.pos] := by simp [hp]
   rw [hg] at hK
   repeat' (first | (with_reducible refine G.joini0 ?_) | (with_reducible refine G.joini1 ?_) | (with_reducible refine G.drew ?_) | (simp (maxSteps := 2000000) only [↓RG, RP, RB, BEq.rfl, Int.reduceEq, Int.reduceLT, Int.reduceLE, Nat.reduceEqDiff, eq_true hf, eq_true c4, c0, c1, c2, c3]))
   exact hK.sub
  rw [if_neg c4] at hK
  by_cases c5 : x.state = 5
  ·rw [if_pos c5] at hK
   have hp := (g5 c5).2
   have e := elem_of hp
   have hg : x.cells.getD x.pos ⟨0, 0⟩ = x.cells[x.pos] := by simp [hp]
   rw [hg] at hK
   repeat' (first | (with_reducible refine G.joini0 ?_) | (with_reducible refine G.joini1 ?_) | (with_reducible refine G.drew ?_) | (simp (maxSteps := 2000000) only [↓RG, RP, RB, BEq.rfl, Int.reduceEq, Int.reduceLT, Int.reduceLE, Nat.reduceEqDiff, eq_true hf, eq_true c5, c0, c1, c2, c3, c4]))
   exact hK.sub
  rw [if_neg c5] at hK
  by_cases c6 : x.state = 6
  ·rw [if_pos c6] at hK
   have hp := (g6 c6).2
   have e := elem_of hp
   have hg : x.stripes.getD x.pos 0 = x.stripes[x.pos] := by simp [hp]
   rw [hg] at hK
   repeat' (first | (with_reducible refine G.joini0 ?_) | (with_reducible refine G.joini1 ?_) | (with_reducible refine G.drew ?_) | (simp (maxSteps := 2000000) only [↓RG, RP, RB, BEq.rfl, Int.reduceEq, Int.reduceLT, Int.reduceLE, Nat.reduceEqDiff, eq_true hf, eq_true c6, c0, c1, c2, c3, c4, c5]))
   exact hK.sub
  rw [if_neg c6] at hK
  have c7 : x.state = 7 := by omega
  have hp := (g7 c7).1
  have hp2 : x.pos < x.stripes.length := by omega
  have e := elem_of hp
  have e2 := elem_of hp2
  have hg : x.stripes.getD x.pos 0 = x.stripes[x.pos] := by simp [hp2]
  have hg2 : x.was.getD x.pos zeroLock = x.was[x.pos] := by simp [hp]
  rw [hg, hg2] at hK
  repeat' (first | (with_reducible refine G.joini0 ?_) | (with_reducible refine G.joini1 ?_) | (with_reducible refine G.drew ?_) | (simp (maxSteps := 2000000) only [↓RG, RP, RB, BEq.rfl, Int.reduceEq, Int.reduceLT, Int.reduceLE, Nat.reduceEqDiff, eq_true hf, eq_true c7, c0, c1, c2, c3, c4, c5, c6]))
  exact hK.sub
 ·rw [if_neg hf] at hK
  refine gf hf ?_
  exact hK.sub
theorem s_commit_New {me sp stamp n wide : Int} {u v : Value} {seen : List TSeen} {cells : List TCell} [r1 : Rd w0 L u tSeenE 2 seen] [r2 : Rd w0 L v tCellE 2 cells] (h1 : seen.length ≤ 100000) (h2 : cells.length ≤ 100000)
  (hK : ∀ b, G w0 (ob ComR b (comNew me sp stamp seen cells (marked (hasStripe cells n wide) 16)) :: L) (K (ptr b 0))) : G w0 L (CP Tryz.prog Fn.commit_New [i64 me, i64 sp, u64 stamp, u, v, i64 n, i64 wide] K) := by
 refine C_commit_New ?_
 unfold S_commit_New
 refine s_patience_New ?_
 refine s_slices_Clone_api_Seen_api_Seen (xs := seen) (by omega) fun v1 hv1 => ?_
 refine s_slices_Clone_api_Cell_api_Cell (xs := cells) (by omega) fun v2 hv2 => ?_
 refine s_writes_Stripes (cs := cells) (by omega) fun v3 hv3 => ?_
 rw [stripes_rising]
 try simp (maxSteps := 2000000) only [↓RG, RB, BEq.rfl, Int.reduceEq, Int.reduceLT, Int.reduceLE, Nat.reduceEqDiff]
 refine G.box fun b => ?_
 have h := s_commit_Commit_more (L := ob ComR b ⟨newPat me sp, me, stamp, seen, cells, marked (hasStripe cells n wide) 16, [], 0, 0, zeroLock, 0, false, 0, 0, 0⟩ :: L) (C := fun A => A :: L) (K := fun _ => K (ptr b 0)) (b := b) (x := ⟨newPat me sp, me, stamp, seen, cells, marked (hasStripe cells n wide) 16, [], 0, 0, zeroLock, 0, false, 0, 0, 0⟩) (hK b)
 rw [ComR_open] at h
 have h := h v1 v2 v3 (.slice none 0 0) ⟨hv1, hv2, hv3, cells_slice⟩
 refine G.nilsl tLockE ?_
 refine G.pickAll (As := [own b [i64 (newPat me sp).me, i64 (newPat me sp).spins, i64 (newPat me sp).fin, i64 (newPat me sp).by_, i64 (newPat me sp).err, i64 me, u64 stamp, v1, v2, v3, .slice none 0 0, i64 0, i64 0, u64 0, .bool false, i64 0, u64 0, .bool false, i64 0, i64 0, i64 0], sl tSeenE v1 seen, sl tCellE v2 cells, sl intE v3 (marked (hasStripe cells n wide) 16), sl tLockE (.slice none 0 0) []]) ?_
 exact h
end
end Go.Proofs.YtoealglbimbbmaaGreatDoor.S
