/-
  CHAPTER 23: a fetch of one word (package fetch): its model, its contracts.
-/
import Derived.Test.YtoealglbimbbmaaGreatDoorPatience
namespace Go.Proofs.YtoealglbimbbmaaGreatDoor.S
open Go Go.Proofs
set_option linter.unusedVariables false
set_option linter.unusedSimpArgs false

structure FetchS where
  pat : Pat
  place : Int
  stripe : Int
  stamp : Int
  state : Int
  lock : TLock
  word : Int

def zeroOp : TOp := ⟨0, 0, 0, 0, zeroLock, zeroLock⟩
def fetchNew (me place stripe sp stamp : Int) : FetchS := ⟨newPat me sp, place, stripe, stamp, 0, zeroLock, 0⟩
def fetchNext (f : FetchS) : TOp × Bool :=
  if f.pat.fin = 0 then (if f.state = 1 then (⟨1, f.place, 0, 0, zeroLock, zeroLock⟩, true) else (⟨3, f.stripe, 0, 0, zeroLock, zeroLock⟩, true)) else (zeroOp, false)
def fetchFound (f : FetchS) (l : TLock) : FetchS :=
  if l.held = true then (if (f.pat.waits l.owner).2 = true then { f with state := 0, pat := (f.pat.waits l.owner).1 } else { f with state := 0, pat := (f.pat.waits l.owner).1.stop 5 0 l.owner })
  else if l.version > f.stamp then { f with state := 0, pat := f.pat.stop 6 0 (-1) }
  else { f with state := 1, lock := l }
def fetchTell (f : FetchS) (a : TAns) : FetchS :=
  if (f.pat.stopped a.err).fin = 0 then
    (if f.state = 1 then { f with word := a.word, state := 2 }
     else if f.state = 2 ∧ a.lock = f.lock then { f with pat := f.pat.stop 2 0 (-1) }
     else fetchFound f a.lock)
  else { f with pat := f.pat.stopped a.err }

abbrev FetchS.rest (f : FetchS) : List Value := [i64 f.place, i64 f.stripe, u64 f.stamp, i64 f.state, u64 f.lock.version, .bool f.lock.held, i64 f.lock.owner, u64 f.word]
def FetchR (b : Nat) (f : FetchS) : Asn := own b (f.pat.cells f.rest)

section
variable {w0 : Base} {L M : List Asn} {K : KV} {F : World → Prop} {C : Asn → List Asn} {b : Nat} {f : FetchS}

theorem FetchR_open : ob FetchR b f = own b (f.pat.cells f.rest) := by rw [ob_eq, FetchR]

theorem s_fetch_New {me pl st sp sm : Int} (hK : ∀ b, G w0 (ob FetchR b (fetchNew me pl st sp sm) :: L) (K (ptr b 0))) : G w0 L (CP Tryz.prog Fn.fetch_New [i64 me, i64 pl, i64 st, i64 sp, u64 sm] K) := by
  refine C_fetch_New ?_
  unfold S_fetch_New
  refine s_patience_New ?_
  try simp (maxSteps := 2000000) only [↓RG, RP, RB, BEq.rfl, Int.reduceEq, Int.reduceLT, Int.reduceLE, Nat.reduceEqDiff]
  refine G.box fun b => ?_
  try simp (maxSteps := 2000000) only [↓RG, RP, RB, BEq.rfl, Int.reduceEq, Int.reduceLT, Int.reduceLE, Nat.reduceEqDiff]
  have h := hK b
  rw [FetchR_open] at h
  exact h

theorem s_fetch_Fetch_End [i : SelOb L FetchR b f C] (hK : G w0 L (K (i64 f.pat.fin))) : G w0 L (CP Tryz.prog Fn.fetch_Fetch_End [ptr b 0] K) := by
  refine i.ro (fun M hK => ?_) hK
  rw [FetchR_open] at *
  refine C_fetch_Fetch_End ?_
  unfold S_fetch_Fetch_End
  try simp (maxSteps := 2000000) only [↓RG, RP, RB, BEq.rfl, Int.reduceEq, Int.reduceLT, Int.reduceLE, Nat.reduceEqDiff]
  refine s_patience_Patience_End (p := f.pat) (rest := f.rest) ?_
  exact hK

theorem s_fetch_Fetch_By [i : SelOb L FetchR b f C] (hK : G w0 L (K (i64 f.pat.by_))) : G w0 L (CP Tryz.prog Fn.fetch_Fetch_By [ptr b 0] K) := by
  refine i.ro (fun M hK => ?_) hK
  rw [FetchR_open] at *
  refine C_fetch_Fetch_By ?_
  unfold S_fetch_Fetch_By
  try simp (maxSteps := 2000000) only [↓RG, RP, RB, BEq.rfl, Int.reduceEq, Int.reduceLT, Int.reduceLE, Nat.reduceEqDiff]
  refine s_patience_Patience_By (p := f.pat) (rest := f.rest) ?_
  exact hK

theorem s_fetch_Fetch_Next [i : SelOb L FetchR b f C] (hK : G w0 L (K (.tuple #[.agg (TOp.cells (fetchNext f).1).toArray, .bool (fetchNext f).2]))) : G w0 L (CP Tryz.prog Fn.fetch_Fetch_Next [ptr b 0] K) := by
  refine i.ro (fun M hK => ?_) hK
  rw [FetchR_open] at *
  refine C_fetch_Fetch_Next ?_
  unfold S_fetch_Fetch_Next
  refine G.new fun q => ?_
  try simp (maxSteps := 2000000) only [↓RG, RP, RB, BEq.rfl, Int.reduceEq, Int.reduceLT, Int.reduceLE, Nat.reduceEqDiff]
  refine s_patience_Patience_End (p := f.pat) (rest := f.rest) ?_
  try simp (maxSteps := 2000000) only [↓RG, RP, RB, BEq.rfl, Int.reduceEq, Int.reduceLT, Int.reduceLE, Nat.reduceEqDiff]
  unfold fetchNext at hK
  by_cases h : f.pat.fin = 0
  · rw [if_pos h] at hK
    try simp (maxSteps := 2000000) only [↓RG, RP, RB, BEq.rfl, Int.reduceEq, Int.reduceLT, Int.reduceLE, Nat.reduceEqDiff, h]
    by_cases h2 : f.state = 1
    · rw [if_pos h2] at hK
      try simp (maxSteps := 2000000) only [↓RG, RP, RB, BEq.rfl, Int.reduceEq, Int.reduceLT, Int.reduceLE, Nat.reduceEqDiff, h2]
      exact hK.sub
    · rw [if_neg h2] at hK
      try simp (maxSteps := 2000000) only [↓RG, RP, RB, BEq.rfl, Int.reduceEq, Int.reduceLT, Int.reduceLE, Nat.reduceEqDiff, h2]
      exact hK.sub
  · rw [if_neg h] at hK
    try simp (maxSteps := 2000000) only [↓RG, RP, RB, BEq.rfl, Int.reduceEq, Int.reduceLT, Int.reduceLE, Nat.reduceEqDiff, h]
    exact hK.sub

theorem s_fetch_Fetch_found {x : TLock} [i : SelOb L FetchR b f C] (hK : G w0 (C (ob FetchR b (fetchFound f x))) (K (.tuple #[]))) : G w0 L (CP Tryz.prog Fn.fetch_Fetch_found [ptr b 0, .agg #[u64 x.version, .bool x.held, i64 x.owner]] K) := by
  refine i.use (fun M hK => ?_) hK
  rw [FetchR_open] at *
  refine C_fetch_Fetch_found ?_
  unfold S_fetch_Fetch_found
  try simp (maxSteps := 2000000) only [fuse_and, fuse_or, fuse_step, fuse_pair, fuse_in, andP_true]
  refine G.box fun q => ?_
  try simp (maxSteps := 2000000) only [↓RG, RP, RB, BEq.rfl, Int.reduceEq, Int.reduceLT, Int.reduceLE, Nat.reduceEqDiff]
  refine G.joini0 ?_
  unfold fetchFound at hK
  obtain ⟨v, h, o⟩ := x
  cases h
  · rw [if_neg (by simp)] at hK
    try simp (maxSteps := 2000000) only [↓RG, RP, RB, BEq.rfl, Int.reduceEq, Int.reduceLT, Int.reduceLE, Nat.reduceEqDiff]
    refine G.drew ?_
    try simp (maxSteps := 2000000) only [↓RG, RP, RB, BEq.rfl, Int.reduceEq, Int.reduceLT, Int.reduceLE, Nat.reduceEqDiff]
    refine G.joini0 ?_
    refine G.cond (fun h => ?_) (fun h => ?_)
    · rw [if_pos (by simpa using h)] at hK
      try simp (maxSteps := 2000000) only [↓RG, RP, RB, BEq.rfl, Int.reduceEq, Int.reduceLT, Int.reduceLE, Nat.reduceEqDiff]
      refine s_patience_Patience_Stop (p := f.pat) (rest := [i64 f.place, i64 f.stripe, u64 f.stamp, i64 0, u64 f.lock.version, .bool f.lock.held, i64 f.lock.owner, u64 f.word]) ?_
      try simp (maxSteps := 2000000) only [↓RG, RP, RB, BEq.rfl, Int.reduceEq, Int.reduceLT, Int.reduceLE, Nat.reduceEqDiff]
      exact hK.sub
    · rw [if_neg (by simpa using h)] at hK
      try simp (maxSteps := 2000000) only [↓RG, RP, RB, BEq.rfl, Int.reduceEq, Int.reduceLT, Int.reduceLE, Nat.reduceEqDiff]
      exact hK.sub
  · rw [if_pos rfl] at hK
    try simp (maxSteps := 2000000) only [↓RG, RP, RB, BEq.rfl, Int.reduceEq, Int.reduceLT, Int.reduceLE, Nat.reduceEqDiff]
    refine G.drew ?_
    try simp (maxSteps := 2000000) only [↓RG, RP, RB, BEq.rfl, Int.reduceEq, Int.reduceLT, Int.reduceLE, Nat.reduceEqDiff]
    refine s_patience_Patience_Waits (p := f.pat) (x := ⟨v, true, o⟩) (rest := [i64 f.place, i64 f.stripe, u64 f.stamp, i64 0, u64 f.lock.version, .bool f.lock.held, i64 f.lock.owner, u64 f.word]) ?_
    try simp (maxSteps := 2000000) only [↓RG, RP, RB, BEq.rfl, Int.reduceEq, Int.reduceLT, Int.reduceLE, Nat.reduceEqDiff]
    refine G.joini0 ?_
    cases hw : (f.pat.waits o).2
    · rw [if_neg (by rw [hw]; decide)] at hK
      try simp (maxSteps := 2000000) only [↓RG, RP, RB, BEq.rfl, Int.reduceEq, Int.reduceLT, Int.reduceLE, Nat.reduceEqDiff, hw]
      refine G.drew ?_
      try simp (maxSteps := 2000000) only [↓RG, RP, RB, BEq.rfl, Int.reduceEq, Int.reduceLT, Int.reduceLE, Nat.reduceEqDiff]
      refine s_patience_Patience_Stop (p := (f.pat.waits o).1) (rest := [i64 f.place, i64 f.stripe, u64 f.stamp, i64 0, u64 f.lock.version, .bool f.lock.held, i64 f.lock.owner, u64 f.word]) ?_
      try simp (maxSteps := 2000000) only [↓RG, RP, RB, BEq.rfl, Int.reduceEq, Int.reduceLT, Int.reduceLE, Nat.reduceEqDiff]
      exact hK.sub
    · rw [if_pos hw] at hK
      try simp (maxSteps := 2000000) only [↓RG, RP, RB, BEq.rfl, Int.reduceEq, Int.reduceLT, Int.reduceLE, Nat.reduceEqDiff, hw]
      exact hK.sub

theorem s_fetch_Fetch_Tell {a : TAns} [i : SelOb L FetchR b f C] (hK : G w0 (C (ob FetchR b (fetchTell f a))) (K (.tuple #[]))) : G w0 L (CP Tryz.prog Fn.fetch_Fetch_Tell [ptr b 0, .agg (TAns.cells a).toArray] K) := by
  refine i.use (fun M hK => ?_) hK
  rw [FetchR_open] at *
  refine C_fetch_Fetch_Tell ?_
  unfold S_fetch_Fetch_Tell
  try simp (maxSteps := 2000000) only [fuse_and, fuse_or, fuse_step, fuse_pair, fuse_in, andP_true]
  refine G.box fun q => ?_
  try simp (maxSteps := 2000000) only [↓RG, RP, RB, BEq.rfl, Int.reduceEq, Int.reduceLT, Int.reduceLE, Nat.reduceEqDiff]
  refine G.drew ?_
  try simp (maxSteps := 2000000) only [↓RG, RP, RB, BEq.rfl, Int.reduceEq, Int.reduceLT, Int.reduceLE, Nat.reduceEqDiff]
  refine s_patience_Patience_Stopped (p := f.pat) (a := a) ?_
  unfold fetchTell at hK
  by_cases hs : (f.pat.stopped a.err).fin = 0
  · have hp : f.pat.stopped a.err = f.pat := by
      unfold Pat.stopped at hs ⊢; split
      · rename_i h; rw [if_pos h] at hs; simp [Pat.stop] at hs
      · rfl
    rw [if_pos hs] at hK
    rw [hp] at hs
    rw [hp]
    try simp (maxSteps := 2000000) only [↓RG, RP, RB, BEq.rfl, Int.reduceEq, Int.reduceLT, Int.reduceLE, Nat.reduceEqDiff, hs]
    refine G.joini0 ?_
    by_cases h1 : f.state = 1
    · rw [if_pos h1] at hK
      try simp (maxSteps := 2000000) only [↓RG, RP, RB, BEq.rfl, Int.reduceEq, Int.reduceLT, Int.reduceLE, Nat.reduceEqDiff, h1]
      refine G.joini0 ?_
      try simp (maxSteps := 2000000) only [↓RG, RP, RB, BEq.rfl, Int.reduceEq, Int.reduceLT, Int.reduceLE, Nat.reduceEqDiff]
      exact hK.sub
    · rw [if_neg h1] at hK
      try simp (maxSteps := 2000000) only [↓RG, RP, RB, BEq.rfl, Int.reduceEq, Int.reduceLT, Int.reduceLE, Nat.reduceEqDiff, h1]
      refine G.joini0 ?_
      refine G.drew ?_
      try simp (maxSteps := 2000000) only [↓RG, RP, RB, BEq.rfl, Int.reduceEq, Int.reduceLT, Int.reduceLE, Nat.reduceEqDiff]
      refine G.all (decide (a.lock = f.lock)) (fun _ K hK => by simp only [↓RG, RP, RB, BEq.rfl, Int.reduceEq, Int.reduceLT, Int.reduceLE, Nat.reduceEqDiff, TLock.eqb a.lock f.lock]; exact hK) ?_
      refine G.joini0 ?_
      refine G.cond (fun h => ?_) (fun h => ?_)
      · rw [if_pos (by simpa using h)] at hK
        try simp (maxSteps := 2000000) only [↓RG, RP, RB, BEq.rfl, Int.reduceEq, Int.reduceLT, Int.reduceLE, Nat.reduceEqDiff]
        refine s_patience_Patience_Stop (p := f.pat) (rest := f.rest) ?_
        try simp (maxSteps := 2000000) only [↓RG, RP, RB, BEq.rfl, Int.reduceEq, Int.reduceLT, Int.reduceLE, Nat.reduceEqDiff]
        exact hK.sub
      · rw [if_neg (by simpa using h), ← FetchR_open] at hK
        rw [G_swap, ← FetchR_open]
        try simp (maxSteps := 2000000) only [↓RG, RP, RB, BEq.rfl, Int.reduceEq, Int.reduceLT, Int.reduceLE, Nat.reduceEqDiff]
        refine s_fetch_Fetch_found (f := f) (x := a.lock) ?_
        try simp (maxSteps := 2000000) only [↓RG, RP, RB, BEq.rfl, Int.reduceEq, Int.reduceLT, Int.reduceLE, Nat.reduceEqDiff]
        exact hK.sub
  · rw [if_neg hs] at hK
    try simp (maxSteps := 2000000) only [↓RG, RP, RB, BEq.rfl, Int.reduceEq, Int.reduceLT, Int.reduceLE, Nat.reduceEqDiff, hs]
    refine G.joini0 ?_
    try simp (maxSteps := 2000000) only [↓RG, RP, RB, BEq.rfl, Int.reduceEq, Int.reduceLT, Int.reduceLE, Nat.reduceEqDiff]
    exact hK.sub

theorem s_fetch_Fetch_Word [i : SelOb L FetchR b f C] (hK : G w0 L (K (u64 (if f.pat.fin = 2 then f.word else 0)))) : G w0 L (CP Tryz.prog Fn.fetch_Fetch_Word [ptr b 0] K) := by
  refine i.ro (fun M hK => ?_) hK
  refine C_fetch_Fetch_Word ?_
  unfold S_fetch_Fetch_Word
  refine s_fetch_Fetch_End (f := f) ?_
  by_cases h : f.pat.fin = 2
  · rw [if_pos h, FetchR_open] at hK
    try simp (maxSteps := 2000000) only [↓RG, RP, RB, BEq.rfl, Int.reduceEq, Int.reduceLT, Int.reduceLE, Nat.reduceEqDiff, h]
    rw [FetchR_open]
    try simp (maxSteps := 2000000) only [↓RG, RP, RB, BEq.rfl, Int.reduceEq, Int.reduceLT, Int.reduceLE, Nat.reduceEqDiff]
    exact hK.sub
  · rw [if_neg h] at hK
    try simp (maxSteps := 2000000) only [↓RG, RP, RB, BEq.rfl, Int.reduceEq, Int.reduceLT, Int.reduceLE, Nat.reduceEqDiff, h]
    exact hK.sub

theorem s_fetch_Fetch_Seen [i : SelOb L FetchR b f C] (hK : G w0 L (K (if f.pat.fin = 2 then .agg #[i64 f.stripe, u64 f.lock.version] else .agg #[i64 0, u64 0]))) : G w0 L (CP Tryz.prog Fn.fetch_Fetch_Seen [ptr b 0] K) := by
  refine i.ro (fun M hK => ?_) hK
  refine C_fetch_Fetch_Seen ?_
  unfold S_fetch_Fetch_Seen
  refine G.new fun q => ?_
  refine s_fetch_Fetch_End (f := f) ?_
  by_cases h : f.pat.fin = 2
  · rw [if_pos h, FetchR_open] at hK
    try simp (maxSteps := 2000000) only [↓RG, RP, RB, BEq.rfl, Int.reduceEq, Int.reduceLT, Int.reduceLE, Nat.reduceEqDiff, h]
    refine G.drew ?_
    rw [FetchR_open]
    try simp (maxSteps := 2000000) only [↓RG, RP, RB, BEq.rfl, Int.reduceEq, Int.reduceLT, Int.reduceLE, Nat.reduceEqDiff]
    exact hK.sub
  · rw [if_neg h] at hK
    try simp (maxSteps := 2000000) only [↓RG, RP, RB, BEq.rfl, Int.reduceEq, Int.reduceLT, Int.reduceLE, Nat.reduceEqDiff, h]
    exact hK.sub

end
end Go.Proofs.YtoealglbimbbmaaGreatDoor.S
