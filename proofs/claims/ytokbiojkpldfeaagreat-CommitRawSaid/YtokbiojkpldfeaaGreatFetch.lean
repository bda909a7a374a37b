/-
  CHAPTER 23: a fetch of one word (package fetch): its model, its contracts.
-/
import Derived.Test.YtokbiojkpldfeaaGreatPatience
namespace Go.Proofs.YtokbiojkpldfeaaGreat.S
open Go Go.Proofs
set_option linter.unusedVariables false
set_option linter.unusedSimpArgs false

structure FetchS where
  pat : Pat
  place : Int
  stripe : Int
  stamp : Int
  state : Int
  lock : TLock
  word : Int

def zeroOp : TOp := ⟨0, 0, 0, 0, zeroLock, zeroLock⟩
def fetchNew (me place stripe sp stamp : Int) : FetchS := ⟨newPat me sp, place, stripe, stamp, 0, zeroLock, 0⟩
def fetchNext (f : FetchS) : TOp × Bool :=
  if f.pat.fin = 0 then (if f.state = 1 then (⟨1, f.place, 0, 0, zeroLock, zeroLock⟩, true) else (⟨3, f.stripe, 0, 0, zeroLock, zeroLock⟩, true)) else (zeroOp, false)
def fetchFound (f : FetchS) (l : TLock) : FetchS :=
  if l.held = true then (if (f.pat.waits l.owner).2 = true then { f with state := 0, pat := (f.pat.waits l.owner).1 } else { f with state := 0, pat := (f.pat.waits l.owner).1.stop 5 0 l.owner })
  else if l.version > f.stamp then { f with state := 0, pat := f.pat.stop 6 0 (-1) }
  else { f with state := 1, lock := l }
def fetchTell (f : FetchS) (a : TAns) : FetchS :=
  if (f.pat.stopped a.err).fin = 0 then
    (if f.state = 1 then { f with word := a.word, state := 2 }
     else if f.state = 2 ∧ a.lock = f.lock then { f with pat := f.pat.stop 2 0 (-1) }
     else fetchFound f a.lock)
  else { f with pat := f.pat.stopped a.err }

abbrev FetchS.rest (f : FetchS) : List Value := [i64 f.place, i64 f.stripe, u64 f.stamp, i64 f.state, u64 f.lock.version, .bool f.lock.held, i64 f.lock.owner, u64 f.word]
def FetchR (b : Nat) (f : FetchS) : Asn := own b (f.pat.cells f.rest)

section
variable {w0 : Base} {L M : List Asn} {K : KV} {F : World → Prop} {C : Asn → List Asn} {b : Nat} {f : FetchS}

theorem FetchR_open : ob FetchR b f = own b (f.pat.cells f.rest) := by rw [ob_eq, FetchR]

end
end Go.Proofs.YtokbiojkpldfeaaGreat.S
