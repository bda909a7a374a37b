/-
  CHAPTERS 23, 24: the document's own steps (quietusref23): its cells stand in another order, and its spins end at nought.
-/
import Derived.Test.YtokbiojkpldfeaaGreatExtend
namespace Go.Proofs.YtokbiojkpldfeaaGreat.S
open Go Go.Proofs
set_option linter.unusedVariables false
set_option linter.unusedSimpArgs false

/-- the document's order of the same five cells -/
abbrev Pat.rcells (p : Pat) (rest : List Value) : List Value := i64 p.me :: i64 p.spins :: i64 p.fin :: i64 p.err :: i64 p.by_ :: rest
def Pat.rfail (p : Pat) (er : Int) : Pat := if er = 0 then p else { p with fin := 4, err := er }
def Pat.rheld (p : Pat) (o : Int) : Pat × Bool := if o > p.me then (p, true) else if p.spins > 0 then ({ p with spins := IntKind.wrap .i64 (p.spins - 1) }, true) else ({ p with fin := 5, by_ := o }, false)

section
variable {w0 : Base} {L M : List Asn} {K : KV} {F : World → Prop} {C : Asn → List Asn} {b : Nat} {p : Pat} {rest : List Value}

theorem s_ref23_begin {me sp : Int} (hK : G w0 L (K (.agg ((newPat me sp).rcells []).toArray))) : G w0 L (CP Tryz.prog Fn.ref23_begin [i64 me, i64 sp] K) := by
  refine C_ref23_begin ?_
  unfold S_ref23_begin
  refine G.new fun q => ?_
  refine s_ref1_Held ?_
  try simp (maxSteps := 2000000) only [↓RG, RP, true_and, and_true, beq_true, beq_false, Bool.true_beq, Bool.false_beq, BEq.rfl, Int.reduceEq, Int.reduceLT, Int.reduceLE, Nat.reduceEqDiff, decide_true, decide_false, Bool.not_true, Bool.not_false, Bool.and_true, Bool.true_and, Bool.and_false, Bool.false_and, Bool.or_true, Bool.true_or, Bool.or_false, Bool.false_or, Bool.not_not]
  exact hK.sub

theorem s_ref23_Step_failed {a : TAns} [i : SelOb L ownR b (p.rcells rest) C] (hK : G w0 (C (own b ((p.rfail a.err).rcells rest))) (K (.bool (!decide (a.err = 0))))) : G w0 L (CP Tryz.prog Fn.ref23_Step_failed [ptr b 0, .agg (TAns.cells a).toArray] K) := by
  refine i.use (fun M hK => ?_) hK
  refine C_ref23_Step_failed ?_
  unfold S_ref23_Step_failed
  try simp (maxSteps := 2000000) only [fuse_and, fuse_or, fuse_step, fuse_pair, fuse_in, andP_true]
  refine G.box fun q => ?_
  try simp (maxSteps := 2000000) only [↓RG, RP, true_and, and_true, beq_true, beq_false, Bool.true_beq, Bool.false_beq, BEq.rfl, Int.reduceEq, Int.reduceLT, Int.reduceLE, Nat.reduceEqDiff, decide_true, decide_false, Bool.not_true, Bool.not_false, Bool.and_true, Bool.true_and, Bool.and_false, Bool.false_and, Bool.or_true, Bool.true_or, Bool.or_false, Bool.false_or, Bool.not_not]
  refine G.joini0 ?_
  unfold Pat.rfail at hK
  by_cases h : a.err = 0
  · rw [if_pos h] at hK
    try simp (maxSteps := 2000000) only [↓RG, RP, true_and, and_true, beq_true, beq_false, Bool.true_beq, Bool.false_beq, BEq.rfl, Int.reduceEq, Int.reduceLT, Int.reduceLE, Nat.reduceEqDiff, decide_true, decide_false, Bool.not_true, Bool.not_false, Bool.and_true, Bool.true_and, Bool.and_false, Bool.false_and, Bool.or_true, Bool.true_or, Bool.or_false, Bool.false_or, Bool.not_not, h]
    simp only [h, decide_true, Bool.not_true] at hK
    exact hK.sub
  · rw [if_neg h] at hK
    try simp (maxSteps := 2000000) only [↓RG, RP, true_and, and_true, beq_true, beq_false, Bool.true_beq, Bool.false_beq, BEq.rfl, Int.reduceEq, Int.reduceLT, Int.reduceLE, Nat.reduceEqDiff, decide_true, decide_false, Bool.not_true, Bool.not_false, Bool.and_true, Bool.true_and, Bool.and_false, Bool.false_and, Bool.or_true, Bool.true_or, Bool.or_false, Bool.false_or, Bool.not_not, h]
    refine G.drew ?_
    try simp (maxSteps := 2000000) only [↓RG, RP, true_and, and_true, beq_true, beq_false, Bool.true_beq, Bool.false_beq, BEq.rfl, Int.reduceEq, Int.reduceLT, Int.reduceLE, Nat.reduceEqDiff, decide_true, decide_false, Bool.not_true, Bool.not_false, Bool.and_true, Bool.true_and, Bool.and_false, Bool.false_and, Bool.or_true, Bool.true_or, Bool.or_false, Bool.false_or, Bool.not_not, h]
    simp only [h, decide_false, Bool.not_false] at hK
    exact hK.sub

theorem s_ref23_Step_held {x : TLock} [i : SelOb L ownR b (p.rcells rest) C] (hK : G w0 (C (own b ((p.rheld x.owner).1.rcells rest))) (K (.bool (p.rheld x.owner).2))) : G w0 L (CP Tryz.prog Fn.ref23_Step_held [ptr b 0, .agg #[u64 x.version, .bool x.held, i64 x.owner]] K) := by
  refine i.use (fun M hK => ?_) hK
  refine C_ref23_Step_held ?_
  unfold S_ref23_Step_held
  try simp (maxSteps := 2000000) only [fuse_and, fuse_or, fuse_step, fuse_pair, fuse_in, andP_true]
  refine G.box fun q => ?_
  refine G.drew ?_
  try simp (maxSteps := 2000000) only [↓RG, RP, true_and, and_true, beq_true, beq_false, Bool.true_beq, Bool.false_beq, BEq.rfl, Int.reduceEq, Int.reduceLT, Int.reduceLE, Nat.reduceEqDiff, decide_true, decide_false, Bool.not_true, Bool.not_false, Bool.and_true, Bool.true_and, Bool.and_false, Bool.false_and, Bool.or_true, Bool.true_or, Bool.or_false, Bool.false_or, Bool.not_not]
  unfold Pat.rheld at hK
  refine G.cond (fun h => ?_) (fun h => ?_)
  · rw [if_pos (by simpa using h)] at hK
    exact hK.sub
  · rw [if_neg (by simpa using h)] at hK
    try simp (maxSteps := 2000000) only [↓RG, RP, true_and, and_true, beq_true, beq_false, Bool.true_beq, Bool.false_beq, BEq.rfl, Int.reduceEq, Int.reduceLT, Int.reduceLE, Nat.reduceEqDiff, decide_true, decide_false, Bool.not_true, Bool.not_false, Bool.and_true, Bool.true_and, Bool.and_false, Bool.false_and, Bool.or_true, Bool.true_or, Bool.or_false, Bool.false_or, Bool.not_not]
    refine G.cond (fun h2 => ?_) (fun h2 => ?_)
    · rw [if_pos (by simpa using h2)] at hK
      try simp (maxSteps := 2000000) only [↓RG, RP, true_and, and_true, beq_true, beq_false, Bool.true_beq, Bool.false_beq, BEq.rfl, Int.reduceEq, Int.reduceLT, Int.reduceLE, Nat.reduceEqDiff, decide_true, decide_false, Bool.not_true, Bool.not_false, Bool.and_true, Bool.true_and, Bool.and_false, Bool.false_and, Bool.or_true, Bool.true_or, Bool.or_false, Bool.false_or, Bool.not_not]
      exact hK.sub
    · rw [if_neg (by simpa using h2)] at hK
      refine G.drew ?_
      try simp (maxSteps := 2000000) only [↓RG, RP, true_and, and_true, beq_true, beq_false, Bool.true_beq, Bool.false_beq, BEq.rfl, Int.reduceEq, Int.reduceLT, Int.reduceLE, Nat.reduceEqDiff, decide_true, decide_false, Bool.not_true, Bool.not_false, Bool.and_true, Bool.true_and, Bool.and_false, Bool.false_and, Bool.or_true, Bool.true_or, Bool.or_false, Bool.false_or, Bool.not_not]
      exact hK.sub

end
/-! ### its fetch -/
def rfetchFound (f : FetchS) (l : TLock) : FetchS :=
  if l.held = true then { f with state := 0, pat := (f.pat.rheld l.owner).1 }
  else if l.version > f.stamp then { f with state := 0, pat := { f.pat with fin := 6 } }
  else { f with state := 1, lock := l }
def rfetchTell (f : FetchS) (a : TAns) : FetchS :=
  if f.pat.fin = 0 then
    (if a.err = 0 then
      (if f.state = 1 then { f with word := a.word, state := 2 }
       else if f.state = 2 ∧ a.lock = f.lock then { f with pat := { f.pat with fin := 2 } }
       else rfetchFound f a.lock)
     else { f with pat := f.pat.rfail a.err })
  else f
def RFetchR (b : Nat) (f : FetchS) : Asn := own b (f.pat.rcells f.rest)
def rfetchNext (f : FetchS) : TOp := if f.state = 1 then ⟨1, f.place, 0, 0, zeroLock, zeroLock⟩ else ⟨3, f.stripe, 0, 0, zeroLock, zeroLock⟩

section
variable {w0 : Base} {L M : List Asn} {K : KV} {F : World → Prop} {C : Asn → List Asn} {b : Nat} {f : FetchS}

theorem RFetchR_open : ob RFetchR b f = own b (f.pat.rcells f.rest) := by rw [ob_eq, RFetchR]

end

end Go.Proofs.YtokbiojkpldfeaaGreat.S
