/-
  CHAPTER 24: an extend of a read set (package extend): its model, its contracts.
-/
import Derived.Test.YtokbiojkpldfeaaGreatFetch
namespace Go.Proofs.YtokbiojkpldfeaaGreat.S
open Go Go.Proofs
set_option linter.unusedVariables false
set_option linter.unusedSimpArgs false

structure ExtS where
  pat : Pat
  seen : List TSeen
  loaded : Bool
  pos : Nat
  stamp : Int

def extNew (me sp : Int) (seen : List TSeen) : ExtS := ⟨newPat me sp, seen, false, 0, 0⟩
/-- while it goes on there is one to look at -/
def ExtOk (x : ExtS) : Prop := x.pat.fin = 0 → x.loaded = true → x.pos < x.seen.length
def extNext (x : ExtS) : TOp × Bool :=
  if x.pat.fin = 0 then (if x.loaded = true then (⟨3, (x.seen.getD x.pos ⟨0, 0⟩).stripe, 0, 0, zeroLock, zeroLock⟩, true) else (⟨6, 0, 0, 0, zeroLock, zeroLock⟩, true)) else (zeroOp, false)
def extDone (x : ExtS) : ExtS := if x.pos = x.seen.length then { x with pat := x.pat.stop 2 0 (-1) } else x
def extTell (x : ExtS) (a : TAns) : ExtS :=
  if (x.pat.stopped a.err).fin = 0 then
    (if x.loaded = false then extDone { x with loaded := true, stamp := a.word }
     else if a.lock.held = true then (if (x.pat.waits a.lock.owner).2 = true then { x with pat := (x.pat.waits a.lock.owner).1 } else { x with pat := (x.pat.waits a.lock.owner).1.stop 5 0 a.lock.owner })
     else if a.lock.version = (x.seen.getD x.pos ⟨0, 0⟩).version then extDone { x with pos := x.pos + 1 }
     else { x with pat := x.pat.stop 5 0 (-1) })
  else { x with pat := x.pat.stopped a.err }

def ExtR (b : Nat) (x : ExtS) : Asn := exA fun v => star (pureA (Cells v [v])) (star (own b (x.pat.cells [v, .bool x.loaded, i64 x.pos, u64 x.stamp])) (sl tSeenE v x.seen))

section
variable {w0 : Base} {L M : List Asn} {K : KV} {F : World → Prop} {C : Asn → List Asn} {b : Nat} {x : ExtS}

theorem ExtR_open : G w0 (ob ExtR b x :: M) F = ∀ v, Cells v [v] → G w0 (own b (x.pat.cells [v, .bool x.loaded, i64 x.pos, u64 x.stamp]) :: sl tSeenE v x.seen :: M) F := by
  rw [ob_eq, ExtR]
  simp only [G_ex, G_star, G_pure]

/-- what stands behind a step: has it seen all? -/
theorem ext_tail {v : Value} {q : Nat} {y : List Value} (hv : Cells v [v]) (hK : G w0 (ob ExtR b (extDone x) :: M) (K (.tuple #[]))) (hf : x.seen.length < 4611686018427387904) :
    G w0 (own q y :: own b (x.pat.cells [v, .bool x.loaded, i64 x.pos, u64 x.stamp]) :: sl tSeenE v x.seen :: M) (fun w =>
      load1W (ptr b 7) (fun x12 w => load1W (ptr b 5) (fun x15 w => lenW x15 (fun x16 w => binIntW .eql x12 x16 (fun x17 w =>
        joinW0 (fun w => K (.tuple #[]) w) (fun j2 w => condP x17 (fun w => CP Tryz.prog Fn.patience_Patience_Stop [ptr b 0, .int .i64 2, .int .i64 0, .int .i64 (-1)] (fun x20 w => j2 w) w) (fun w => j2 w) w) w) w) w) w) w) := by
  try simp (maxSteps := 2000000) only [↓RG, RP, true_and, and_true, beq_true, beq_false, Bool.true_beq, Bool.false_beq, BEq.rfl, Int.reduceEq, Int.reduceLT, Int.reduceLE, Nat.reduceEqDiff, decide_true, decide_false, Bool.not_true, Bool.not_false, Bool.and_true, Bool.true_and, Bool.and_false, Bool.false_and, Bool.or_true, Bool.true_or, Bool.or_false, Bool.false_or, Bool.not_not]
  refine G.joini0 ?_
  unfold extDone at hK
  refine G.cond (fun h => ?_) (fun h => ?_)
  · rw [if_pos (by simp at h; omega), ExtR_open] at hK
    refine s_patience_Patience_Stop (p := x.pat) (rest := [v, .bool x.loaded, i64 x.pos, u64 x.stamp]) ?_
    try simp (maxSteps := 2000000) only [↓RG, RP, true_and, and_true, beq_true, beq_false, Bool.true_beq, Bool.false_beq, BEq.rfl, Int.reduceEq, Int.reduceLT, Int.reduceLE, Nat.reduceEqDiff, decide_true, decide_false, Bool.not_true, Bool.not_false, Bool.and_true, Bool.true_and, Bool.and_false, Bool.false_and, Bool.or_true, Bool.true_or, Bool.or_false, Bool.false_or, Bool.not_not]
    exact (hK v hv).sub
  · rw [if_neg (by simp at h; omega), ExtR_open] at hK
    exact (hK v hv).sub

end
end Go.Proofs.YtokbiojkpldfeaaGreat.S
