/-
  Package patience: who waits for whom, and how a machine of micro-operations ends. Its five cells stand first in the machine's object.
-/
import Derived.Test.YtoealglbimbbmaaGreatDoorRefMem
namespace Go.Proofs.YtoealglbimbbmaaGreatDoor.S
open Go Go.Proofs
set_option linter.unusedVariables false
set_option linter.unusedSimpArgs false

structure Pat where
  me : Int
  spins : Int
  fin : Int
  by_ : Int
  err : Int

abbrev Pat.cells (p : Pat) (rest : List Value) : List Value := i64 p.me :: i64 p.spins :: i64 p.fin :: i64 p.by_ :: i64 p.err :: rest
def newPat (me spins : Int) : Pat := ⟨me, held spins 0 4, 0, -1, 0⟩
def Pat.stop (p : Pat) (e er b : Int) : Pat := { p with fin := e, err := er, by_ := b }
/-- does it look again, and what is left -/
def Pat.waits (p : Pat) (owner : Int) : Pat × Bool := if owner > p.me then (p, true) else ({ p with spins := IntKind.wrap .i64 (p.spins - 1) }, decide (IntKind.wrap .i64 (p.spins - 1) ≥ 0))
def Pat.stopped (p : Pat) (err : Int) : Pat := if p.fin = 0 ∧ err ≠ 0 then p.stop 4 err (-1) else p

section
variable {w0 : Base} {L M : List Asn} {K : KV} {F : World → Prop} {C : Asn → List Asn} {b : Nat} {p : Pat} {rest : List Value}

theorem s_patience_New {me sp : Int} (hK : G w0 L (K (.agg ((newPat me sp).cells []).toArray))) : G w0 L (CP Tryz.prog Fn.patience_New [i64 me, i64 sp] K) := by
  refine C_patience_New ?_
  unfold S_patience_New
  refine G.new fun q => ?_
  try simp (maxSteps := 2000000) only [↓RG, RP, RB, BEq.rfl, Int.reduceEq, Int.reduceLT, Int.reduceLE, Nat.reduceEqDiff]
  have e : (if (if (4 : Int) < sp then 4 else sp) > 0 then if (4 : Int) < sp then 4 else sp else 0) = held sp 0 4 := by unfold held; split <;> split <;> split <;> (try split) <;> omega
  rw [e]
  exact hK.sub

theorem s_patience_Patience_End [i : SelOb L ownR b (p.cells rest) C] (hK : G w0 L (K (i64 p.fin))) : G w0 L (CP Tryz.prog Fn.patience_Patience_End [ptr b 0] K) := by
  refine i.ro (fun M hK => ?_) hK
  refine C_patience_Patience_End ?_
  unfold S_patience_Patience_End
  try simp (maxSteps := 2000000) only [↓RG, RP, RB, BEq.rfl, Int.reduceEq, Int.reduceLT, Int.reduceLE, Nat.reduceEqDiff]
  exact hK

theorem s_patience_Patience_By [i : SelOb L ownR b (p.cells rest) C] (hK : G w0 L (K (i64 p.by_))) : G w0 L (CP Tryz.prog Fn.patience_Patience_By [ptr b 0] K) := by
  refine i.ro (fun M hK => ?_) hK
  refine C_patience_Patience_By ?_
  unfold S_patience_Patience_By
  try simp (maxSteps := 2000000) only [↓RG, RP, RB, BEq.rfl, Int.reduceEq, Int.reduceLT, Int.reduceLE, Nat.reduceEqDiff]
  exact hK

theorem s_patience_Patience_Err [i : SelOb L ownR b (p.cells rest) C] (hK : G w0 L (K (i64 p.err))) : G w0 L (CP Tryz.prog Fn.patience_Patience_Err [ptr b 0] K) := by
  refine i.ro (fun M hK => ?_) hK
  refine C_patience_Patience_Err ?_
  unfold S_patience_Patience_Err
  try simp (maxSteps := 2000000) only [↓RG, RP, RB, BEq.rfl, Int.reduceEq, Int.reduceLT, Int.reduceLE, Nat.reduceEqDiff]
  exact hK

theorem s_patience_Patience_Stop {e er by_ : Int} [i : SelOb L ownR b (p.cells rest) C] (hK : G w0 (C (own b ((p.stop e er by_).cells rest))) (K (.tuple #[]))) : G w0 L (CP Tryz.prog Fn.patience_Patience_Stop [ptr b 0, i64 e, i64 er, i64 by_] K) := by
  refine i.use (fun M hK => ?_) hK
  refine C_patience_Patience_Stop ?_
  unfold S_patience_Patience_Stop
  try simp (maxSteps := 2000000) only [↓RG, RP, RB, BEq.rfl, Int.reduceEq, Int.reduceLT, Int.reduceLE, Nat.reduceEqDiff]
  exact hK

theorem s_patience_Patience_Waits {x : TLock} [i : SelOb L ownR b (p.cells rest) C] (hK : G w0 (C (own b ((p.waits x.owner).1.cells rest))) (K (.bool (p.waits x.owner).2))) : G w0 L (CP Tryz.prog Fn.patience_Patience_Waits [ptr b 0, .agg #[u64 x.version, .bool x.held, i64 x.owner]] K) := by
  refine i.use (fun M hK => ?_) hK
  refine C_patience_Patience_Waits ?_
  unfold S_patience_Patience_Waits
  refine G.box fun q => ?_
  refine G.drew ?_
  try simp (maxSteps := 2000000) only [↓RG, RP, RB, BEq.rfl, Int.reduceEq, Int.reduceLT, Int.reduceLE, Nat.reduceEqDiff]
  refine G.cond (fun h => ?_) (fun h => ?_)
  · have : p.waits x.owner = (p, true) := by unfold Pat.waits; simp at h; simp [h]
    rw [this] at hK
    exact hK.sub
  · have : p.waits x.owner = ({ p with spins := IntKind.wrap .i64 (p.spins - 1) }, decide (IntKind.wrap .i64 (p.spins - 1) ≥ 0)) := by unfold Pat.waits; simp at h; rw [if_neg (by omega)]
    rw [this] at hK
    try simp (maxSteps := 2000000) only [↓RG, RP, RB, BEq.rfl, Int.reduceEq, Int.reduceLT, Int.reduceLE, Nat.reduceEqDiff]
    exact hK.sub

theorem s_patience_Patience_Stopped {a : TAns} [i : SelOb L ownR b (p.cells rest) C] (hK : G w0 (C (own b ((p.stopped a.err).cells rest))) (K (.bool (!decide ((p.stopped a.err).fin = 0))))) : G w0 L (CP Tryz.prog Fn.patience_Patience_Stopped [ptr b 0, .agg (TAns.cells a).toArray] K) := by
  refine i.use (fun M hK => ?_) hK
  refine C_patience_Patience_Stopped ?_
  unfold S_patience_Patience_Stopped
  try simp (maxSteps := 2000000) only [fuse_and, fuse_or, fuse_step, fuse_pair, fuse_in, andP_true]
  refine G.box fun q => ?_
  try simp (maxSteps := 2000000) only [↓RG, RP, RB, BEq.rfl, Int.reduceEq, Int.reduceLT, Int.reduceLE, Nat.reduceEqDiff]
  refine G.all (decide (a.err ≠ 0)) (fun _ K hK => by try simp (maxSteps := 2000000) only [↓RG, RP, RB, BEq.rfl, Int.reduceEq, Int.reduceLT, Int.reduceLE, Nat.reduceEqDiff]; simpa using hK) ?_
  refine G.joini0 ?_
  refine G.cond (fun h => ?_) (fun h => ?_)
  · have : p.stopped a.err = p.stop 4 a.err (-1) := by unfold Pat.stopped; simp at h; simp [h]
    rw [this] at hK
    try simp (maxSteps := 2000000) only [↓RG, RP, RB, BEq.rfl, Int.reduceEq, Int.reduceLT, Int.reduceLE, Nat.reduceEqDiff]
    refine s_patience_Patience_Stop (p := p) (rest := rest) ?_
    try simp (maxSteps := 2000000) only [↓RG, RP, RB, BEq.rfl, Int.reduceEq, Int.reduceLT, Int.reduceLE, Nat.reduceEqDiff]
    exact hK.sub
  · have : p.stopped a.err = p := by unfold Pat.stopped; simp at h; rw [if_neg (fun g => g.2 (h g.1))]
    rw [this] at hK
    try simp (maxSteps := 2000000) only [↓RG, RP, RB, BEq.rfl, Int.reduceEq, Int.reduceLT, Int.reduceLE, Nat.reduceEqDiff]
    exact hK.sub

end
end Go.Proofs.YtoealglbimbbmaaGreatDoor.S
