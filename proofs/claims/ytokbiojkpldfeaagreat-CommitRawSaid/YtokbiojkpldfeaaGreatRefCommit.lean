/-
  CHAPTER 25: the document's commit (quietusref23): its model, its contracts.
-/
import Derived.Test.YtokbiojkpldfeaaGreatCommitW
import Derived.Test.YtokbiojkpldfeaaGreatFetchRel
namespace Go.Proofs.YtokbiojkpldfeaaGreat.S
open Go Go.Proofs
set_option linter.unusedVariables false
set_option linter.unusedSimpArgs false

structure RCom where
  pat : Pat
  stamp : Int
  seen : List TSeen
  cells : List TCell
  stripes : List Int
  was : List TLock
  lock : TLock
  ph : Int
  pos : Nat
  t : Int
  fin : Int
  err : Int
  by_ : Int

def rOut (x : RCom) (e er b : Int) : RCom :=
  if 0 < x.was.length then { x with fin := e, err := er, by_ := b, pat := { x.pat with fin := 0, err := 0, by_ := -1 }, ph := 7, pos := 0 } else { x with pat := { x.pat with fin := e, err := er, by_ := b } }
def rFree (x : RCom) : RCom := if x.stripes.length = 0 then { x with ph := 6, pos := 0, pat := { x.pat with fin := 2 } } else { x with ph := 6, pos := 0 }
def rWrite (x : RCom) : RCom := if x.cells.length = 0 then rFree { x with ph := 5, pos := 0 } else { x with ph := 5, pos := 0 }
def rOwnV (x : RCom) (s : Int) : Option Int := (idxS (x.stripes.take x.was.length) s).map fun i => (x.was.getD i zeroLock).version
def rLookN : Nat → RCom → RCom
  | 0, x => rWrite x
  | n + 1, x => match rOwnV x (x.seen.getD x.pos ⟨0, 0⟩).stripe with
    | none => x
    | some v => if v = (x.seen.getD x.pos ⟨0, 0⟩).version then rLookN n { x with pos := x.pos + 1 } else rOut x 5 0 (-1)
def rLook (x : RCom) : RCom := rLookN (x.seen.length - x.pos) x
def rLocks (x : RCom) (a : TAns) : RCom :=
  if x.ph = 1 then (if a.done = false then { x with ph := 0 } else if x.pos + 1 = x.stripes.length then { x with was := x.was ++ [x.lock], pos := 0, ph := 2 } else { x with was := x.was ++ [x.lock], pos := x.pos + 1, ph := 0 })
  else if a.lock.held = true then (if (x.pat.rheld a.lock.owner).2 = true then { x with pat := (x.pat.rheld a.lock.owner).1 } else rOut { x with pat := (x.pat.rheld a.lock.owner).1 } (x.pat.rheld a.lock.owner).1.fin (x.pat.rheld a.lock.owner).1.err (x.pat.rheld a.lock.owner).1.by_)
  else if x.ph = 0 then { x with lock := a.lock, ph := 1 }
  else if a.lock.version = (x.seen.getD x.pos ⟨0, 0⟩).version then rLook { x with pos := x.pos + 1 } else rOut x 5 0 (-1)
def rTell (x : RCom) (a : TAns) : RCom :=
  if x.pat.fin = 0 then (if a.err = 0 then
    (if x.ph = 0 ∨ x.ph = 1 ∨ x.ph = 4 then rLocks x a
     else if x.ph = 2 then (if 4611686018427387903 ≤ a.word then rOut { x with t := a.word, ph := 3 } 4 7 (-1) else { x with t := a.word, ph := 3 })
     else if x.ph = 3 then (if a.done = false then { x with ph := 2 } else if x.t = x.stamp then rWrite { x with ph := 4, pos := 0 } else rLook { x with ph := 4, pos := 0 })
     else if x.ph = 5 then (if x.pos + 1 = x.cells.length then rFree { x with pos := x.pos + 1 } else { x with pos := x.pos + 1 })
     else if x.ph = 6 then (if x.pos + 1 = x.stripes.length then { x with pos := x.pos + 1, pat := { x.pat with fin := 2 } } else { x with pos := x.pos + 1 })
     else if x.pos + 1 = x.was.length then { x with pos := x.pos + 1, pat := { x.pat with fin := x.fin, err := x.err, by_ := x.by_ } } else { x with pos := x.pos + 1 })
    else { x with pat := x.pat.rfail a.err })
  else x
def rNext (x : RCom) : TOp :=
  if x.ph = 0 then ⟨3, x.stripes.getD x.pos 0, 0, 0, zeroLock, zeroLock⟩
  else if x.ph = 1 then ⟨4, x.stripes.getD x.pos 0, 0, 0, x.lock, ⟨x.lock.version, true, x.pat.me⟩⟩
  else if x.ph = 2 then ⟨6, 0, 0, 0, zeroLock, zeroLock⟩
  else if x.ph = 3 then ⟨7, 0, x.t, IntKind.wrap .u64 (x.t + 1), zeroLock, zeroLock⟩
  else if x.ph = 4 then ⟨3, (x.seen.getD x.pos ⟨0, 0⟩).stripe, 0, 0, zeroLock, zeroLock⟩
  else if x.ph = 5 then ⟨2, (x.cells.getD x.pos ⟨0, 0⟩).place, 0, (x.cells.getD x.pos ⟨0, 0⟩).word, zeroLock, zeroLock⟩
  else if x.ph = 6 then ⟨5, x.stripes.getD x.pos 0, 0, 0, zeroLock, ⟨IntKind.wrap .u64 (x.t + 1), false, 0⟩⟩
  else ⟨5, x.stripes.getD x.pos 0, 0, 0, zeroLock, x.was.getD x.pos zeroLock⟩
def rNew (me sp stamp : Int) (seen : List TSeen) (cells : List TCell) (S : List Int) : RCom := ⟨newPat me sp, stamp, seen, cells, S, [], zeroLock, if S.length = 0 then 2 else 0, 0, 0, 0, 0, 0⟩

/-- where its places may be -/
structure RLen (x : RCom) : Prop where
  few : x.stripes.length ≤ 16
  was : x.was.length ≤ x.stripes.length
  seen : x.seen.length ≤ 1000000
  pos : x.pos ≤ 1000000
structure ROk (x : RCom) : Prop where
  len : RLen x
  st : 0 ≤ x.ph ∧ x.ph ≤ 7
  p01 : (x.ph = 0 ∨ x.ph = 1) → x.pos < x.stripes.length ∧ x.was.length < x.stripes.length
  p4 : x.ph = 4 → x.pos < x.seen.length
  p5 : x.ph = 5 → x.pos < x.cells.length
  p6 : x.ph = 6 → x.pos < x.stripes.length
  p7 : x.ph = 7 → x.pos < x.was.length

abbrev RCom.rest (x : RCom) (v1 v2 v3 v4 : Value) : List Value := [u64 x.stamp, v1, v2, v3, v4, u64 x.lock.version, .bool x.lock.held, i64 x.lock.owner, i64 x.ph, i64 x.pos, u64 x.t, i64 x.fin, i64 x.err, i64 x.by_]
def RComR (b : Nat) (x : RCom) : Asn := exA fun v1 => exA fun v2 => exA fun v3 => exA fun v4 => star (pureA (Cells4 v1 v2 v3 v4)) (star (star (star (star (own b (x.pat.rcells (x.rest v1 v2 v3 v4))) (sl tSeenE v1 x.seen)) (sl tCellE v2 x.cells)) (sl intE v3 x.stripes)) (sl tLockE v4 x.was))

section
variable {w0 : Base} {L M : List Asn} {K : KV} {F : World → Prop} {C : Asn → List Asn} {b : Nat} {x : RCom}

theorem RComR_open : G w0 (ob RComR b x :: M) F = ∀ v1 v2 v3 v4, Cells4 v1 v2 v3 v4 → G w0 (own b (x.pat.rcells (x.rest v1 v2 v3 v4)) :: sl tSeenE v1 x.seen :: sl tCellE v2 x.cells :: sl intE v3 x.stripes :: sl tLockE v4 x.was :: M) F := by
  rw [ob_eq, RComR]
  simp only [G_ex, G_star, G_pure]

theorem RComR_close {v1 v2 v3 v4 : Value} (b : Nat) (x : RCom) [PickAll [own b (x.pat.rcells (x.rest v1 v2 v3 v4)), sl tSeenE v1 x.seen, sl tCellE v2 x.cells, sl intE v3 x.stripes, sl tLockE v4 x.was] L M]
    (h : Cells4 v1 v2 v3 v4) (H : G w0 (ob RComR b x :: M) F) : G w0 L F :=
  G.pickAll (As := [own b (x.pat.rcells (x.rest v1 v2 v3 v4)), sl tSeenE v1 x.seen, sl tCellE v2 x.cells, sl intE v3 x.stripes, sl tLockE v4 x.was]) (by rw [RComR_open] at H; exact H v1 v2 v3 v4 h)

theorem s_ref23_Commit_out {e er by_ : Int} [i : SelOb L RComR b x C] (hK : G w0 (C (ob RComR b (rOut x e er by_))) (K (.tuple #[]))) : G w0 L (CP Tryz.prog Fn.ref23_Commit_out [ptr b 0, i64 e, i64 er, i64 by_] K) := by
  refine i.use (fun M hK => ?_) hK
  refine C_ref23_Commit_out ?_
  unfold S_ref23_Commit_out
  rw [RComR_open]
  rintro v1 v2 v3 v4 hv
  try simp (maxSteps := 2000000) only [↓RG, true_and, and_true, beq_true, beq_false, Bool.true_beq, Bool.false_beq, BEq.rfl, Int.reduceEq, Int.reduceLT, Int.reduceLE, Nat.reduceEqDiff, decide_true, decide_false, Bool.not_true, Bool.not_false, Bool.and_true, Bool.true_and, Bool.and_false, Bool.false_and, Bool.or_true, Bool.true_or, Bool.or_false, Bool.false_or, Bool.not_not, Nat.reduceAdd]
  refine G.joini0 ?_
  unfold rOut at hK
  refine G.cond (fun h => ?_) (fun h => ?_)
  · rw [if_pos (by simp at h; omega), RComR_open] at hK
    try simp (maxSteps := 2000000) only [↓RG, true_and, and_true, beq_true, beq_false, Bool.true_beq, Bool.false_beq, BEq.rfl, Int.reduceEq, Int.reduceLT, Int.reduceLE, Nat.reduceEqDiff, decide_true, decide_false, Bool.not_true, Bool.not_false, Bool.and_true, Bool.true_and, Bool.and_false, Bool.false_and, Bool.or_true, Bool.true_or, Bool.or_false, Bool.false_or, Bool.not_not, Nat.reduceAdd]
    exact (hK v1 v2 v3 v4 hv).sub
  · rw [if_neg (by simp at h; simp [h]), RComR_open] at hK
    exact (hK v1 v2 v3 v4 hv).sub

theorem s_ref23_Commit_free [i : SelOb L RComR b x C] (hK : G w0 (C (ob RComR b (rFree x))) (K (.tuple #[]))) : G w0 L (CP Tryz.prog Fn.ref23_Commit_free [ptr b 0] K) := by
  refine i.use (fun M hK => ?_) hK
  refine C_ref23_Commit_free ?_
  unfold S_ref23_Commit_free
  rw [RComR_open]
  rintro v1 v2 v3 v4 hv
  try simp (maxSteps := 2000000) only [↓RG, true_and, and_true, beq_true, beq_false, Bool.true_beq, Bool.false_beq, BEq.rfl, Int.reduceEq, Int.reduceLT, Int.reduceLE, Nat.reduceEqDiff, decide_true, decide_false, Bool.not_true, Bool.not_false, Bool.and_true, Bool.true_and, Bool.and_false, Bool.false_and, Bool.or_true, Bool.true_or, Bool.or_false, Bool.false_or, Bool.not_not]
  refine G.joini0 ?_
  unfold rFree at hK
  refine G.cond (fun h => ?_) (fun h => ?_)
  · rw [if_pos (by simp at h; simp [h]), RComR_open] at hK
    try simp (maxSteps := 2000000) only [↓RG, true_and, and_true, beq_true, beq_false, Bool.true_beq, Bool.false_beq, BEq.rfl, Int.reduceEq, Int.reduceLT, Int.reduceLE, Nat.reduceEqDiff, decide_true, decide_false, Bool.not_true, Bool.not_false, Bool.and_true, Bool.true_and, Bool.and_false, Bool.false_and, Bool.or_true, Bool.true_or, Bool.or_false, Bool.false_or, Bool.not_not, Nat.reduceAdd]
    exact (hK v1 v2 v3 v4 hv).sub
  · rw [if_neg (by simp at h; simp [h]), RComR_open] at hK
    exact (hK v1 v2 v3 v4 hv).sub

theorem s_ref23_Commit_write [i : SelOb L RComR b x C] (hK : G w0 (C (ob RComR b (rWrite x))) (K (.tuple #[]))) : G w0 L (CP Tryz.prog Fn.ref23_Commit_write [ptr b 0] K) := by
  refine i.use (fun M hK => ?_) hK
  refine C_ref23_Commit_write ?_
  unfold S_ref23_Commit_write
  rw [RComR_open]
  rintro v1 v2 v3 v4 hv
  try simp (maxSteps := 2000000) only [↓RG, true_and, and_true, beq_true, beq_false, Bool.true_beq, Bool.false_beq, BEq.rfl, Int.reduceEq, Int.reduceLT, Int.reduceLE, Nat.reduceEqDiff, decide_true, decide_false, Bool.not_true, Bool.not_false, Bool.and_true, Bool.true_and, Bool.and_false, Bool.false_and, Bool.or_true, Bool.true_or, Bool.or_false, Bool.false_or, Bool.not_not]
  refine G.joini0 ?_
  unfold rWrite at hK
  refine G.cond (fun h => ?_) (fun h => ?_)
  · rw [if_pos (by simp at h; simp [h])] at hK
    refine RComR_close b { x with ph := 5, pos := 0 } hv ?_
    exact s_ref23_Commit_free (x := { x with ph := 5, pos := 0 }) hK
  · rw [if_neg (by simp at h; simp [h]), RComR_open] at hK
    exact (hK v1 v2 v3 v4 hv).sub

theorem idxS_drop {l : List Int} {a : Int} {k : Nat} (h : k < l.length) (hp : idxS l a = (idxS (l.drop k) a).map (· + k)) :
    (l[k] = a → idxS l a = some k) ∧ (l[k] ≠ a → idxS l a = (idxS (l.drop (k + 1)) a).map (· + (k + 1))) := by
  rw [List.drop_eq_getElem_cons h] at hp
  refine ⟨fun e => by rw [hp]; unfold idxS; rw [if_pos e]; simp, fun e => ?_⟩
  rw [hp]
  conv => lhs; unfold idxS
  rw [if_neg e, Option.map_map]
  congr 1
  funext n
  show n + 1 + k = n + (k + 1)
  omega

def ownRV (o : Option Int) : Value := match o with | some v => .tuple #[u64 v, .bool true] | none => .tuple #[u64 0, .bool false]

theorem s_ref23_Commit_own {s : Int} (hl : RLen x) [i : SelOb L RComR b x C] (hK : G w0 L (K (ownRV (rOwnV x s)))) : G w0 L (CP Tryz.prog Fn.ref23_Commit_own [ptr b 0, i64 s] K) := by
  refine i.ro (fun M hK => ?_) hK
  refine C_ref23_Commit_own ?_
  unfold S_ref23_Commit_own
  have hfew := hl.few
  have hwas := hl.was
  rw [RComR_open] at *
  rintro v1 v2 v3 v4 hv
  have hK := hK v1 v2 v3 v4 hv
  have htl : (x.stripes.take x.was.length).length = x.was.length := by rw [List.length_take]; omega
  refine G.loopc1 (fun k : Nat => i64 k) (fun k => k ≤ x.was.length ∧ idxS (x.stripes.take x.was.length) s = (idxS ((x.stripes.take x.was.length).drop k) s).map (· + k)) (fun k => x.was.length - k) 0 rfl ⟨by omega, by simp⟩ ?_
  rintro k ⟨hk, hp⟩ J hJ
  try simp (maxSteps := 2000000) only [↓RG, true_and, and_true, beq_true, beq_false, Bool.true_beq, Bool.false_beq, BEq.rfl, Int.reduceEq, Int.reduceLT, Int.reduceLE, Nat.reduceEqDiff, decide_true, decide_false, Bool.not_true, Bool.not_false, Bool.and_true, Bool.true_and, Bool.and_false, Bool.false_and, Bool.or_true, Bool.true_or, Bool.or_false, Bool.false_or, Bool.not_not]
  refine G.cond (fun h => ?_) (fun h => ?_)
  · have hk2 : k < x.was.length := by simpa using h
    have e := elem_of hk2
    have e2 := elem_of (show k < x.stripes.length by omega)
    obtain ⟨p1, p2⟩ := idxS_drop (by omega) hp
    rw [List.getElem_take] at p1 p2
    try simp (maxSteps := 2000000) only [↓RG, true_and, and_true, beq_true, beq_false, Bool.true_beq, Bool.false_beq, BEq.rfl, Int.reduceEq, Int.reduceLT, Int.reduceLE, Nat.reduceEqDiff, decide_true, decide_false, Bool.not_true, Bool.not_false, Bool.and_true, Bool.true_and, Bool.and_false, Bool.false_and, Bool.or_true, Bool.true_or, Bool.or_false, Bool.false_or, Bool.not_not]
    refine G.cond (fun h => ?_) (fun h => ?_)
    · unfold rOwnV at hK
      rw [p1 (by simpa using h)] at hK
      have : x.was.getD k zeroLock = x.was[k] := by simp [hk2]
      simp only [Option.map_some, this, ownRV] at hK
      try simp (maxSteps := 2000000) only [↓RG, true_and, and_true, beq_true, beq_false, Bool.true_beq, Bool.false_beq, BEq.rfl, Int.reduceEq, Int.reduceLT, Int.reduceLE, Nat.reduceEqDiff, decide_true, decide_false, Bool.not_true, Bool.not_false, Bool.and_true, Bool.true_and, Bool.and_false, Bool.false_and, Bool.or_true, Bool.true_or, Bool.or_false, Bool.false_or, Bool.not_not]
      exact hK
    · try simp (maxSteps := 2000000) only [↓RG, true_and, and_true, beq_true, beq_false, Bool.true_beq, Bool.false_beq, BEq.rfl, Int.reduceEq, Int.reduceLT, Int.reduceLE, Nat.reduceEqDiff, decide_true, decide_false, Bool.not_true, Bool.not_false, Bool.and_true, Bool.true_and, Bool.and_false, Bool.false_and, Bool.or_true, Bool.true_or, Bool.or_false, Bool.false_or, Bool.not_not]
      rw [wsucc (by omega)]
      exact hJ (k + 1) ⟨hk2, p2 (by simpa using h)⟩ (by omega)
  · have : (x.stripes.take x.was.length).drop k = [] := List.drop_eq_nil_of_le (by simp at h; omega)
    rw [this] at hp
    unfold rOwnV at hK
    rw [hp] at hK
    exact hK

theorem s_ref23_Commit_look (hl : RLen x) (hp : x.pos ≤ x.seen.length) [i : SelOb L RComR b x C] (hK : G w0 (C (ob RComR b (rLook x))) (K (.tuple #[]))) : G w0 L (CP Tryz.prog Fn.ref23_Commit_look [ptr b 0] K) := by
  refine i.use (fun M hK => ?_) hK
  refine C_ref23_Commit_look ?_
  unfold S_ref23_Commit_look
  have hfew := hl.few
  have hwas := hl.was
  have hseen := hl.seen
  refine G.loop0 (σ := Nat) (fun k => ob RComR b { x with pos := k } :: M) (fun k => x.pos ≤ k ∧ k ≤ x.seen.length ∧ rLook x = rLookN (x.seen.length - k) { x with pos := k }) (fun k => x.seen.length - k) x.pos rfl ⟨Nat.le_refl _, hp, rfl⟩ ?_
  rintro k ⟨hk1, hk2, hpr⟩ J hJ
  rw [hpr] at hK
  rw [RComR_open]
  rintro v1 v2 v3 v4 hv
  refine G.drew ?_
  try simp (maxSteps := 2000000) only [↓RG, true_and, and_true, beq_true, beq_false, Bool.true_beq, Bool.false_beq, BEq.rfl, Int.reduceEq, Int.reduceLT, Int.reduceLE, Nat.reduceEqDiff, decide_true, decide_false, Bool.not_true, Bool.not_false, Bool.and_true, Bool.true_and, Bool.and_false, Bool.false_and, Bool.or_true, Bool.true_or, Bool.or_false, Bool.false_or, Bool.not_not]
  refine G.cond (fun h => ?_) (fun h => ?_)
  · have hk3 : k < x.seen.length := by simpa using h
    have e := elem_of hk3
    have hg : x.seen.getD k ⟨0, 0⟩ = x.seen[k] := by simp [hk3]
    rw [show x.seen.length - k = (x.seen.length - (k + 1)) + 1 by omega] at hK hpr
    unfold rLookN at hK hpr
    simp only [hg] at hK hpr
    refine G.drew ?_
    try simp (maxSteps := 2000000) only [↓RG, true_and, and_true, beq_true, beq_false, Bool.true_beq, Bool.false_beq, BEq.rfl, Int.reduceEq, Int.reduceLT, Int.reduceLE, Nat.reduceEqDiff, decide_true, decide_false, Bool.not_true, Bool.not_false, Bool.and_true, Bool.true_and, Bool.and_false, Bool.false_and, Bool.or_true, Bool.true_or, Bool.or_false, Bool.false_or, Bool.not_not]
    refine RComR_close b { x with pos := k } hv ?_
    refine s_ref23_Commit_own (x := { x with pos := k }) ⟨hl.few, hl.was, hl.seen, by simp only; omega⟩ ?_
    cases ho : rOwnV { x with pos := k } x.seen[k].stripe with
    | none =>
      rw [ho] at hK
      unfold ownRV
      try simp (maxSteps := 2000000) only [↓RG, true_and, and_true, beq_true, beq_false, Bool.true_beq, Bool.false_beq, BEq.rfl, Int.reduceEq, Int.reduceLT, Int.reduceLE, Nat.reduceEqDiff, decide_true, decide_false, Bool.not_true, Bool.not_false, Bool.and_true, Bool.true_and, Bool.and_false, Bool.false_and, Bool.or_true, Bool.true_or, Bool.or_false, Bool.false_or, Bool.not_not]
      exact hK
    | some v =>
      rw [ho] at hK hpr
      simp only at hK hpr
      unfold ownRV
      try simp (maxSteps := 2000000) only [↓RG, true_and, and_true, beq_true, beq_false, Bool.true_beq, Bool.false_beq, BEq.rfl, Int.reduceEq, Int.reduceLT, Int.reduceLE, Nat.reduceEqDiff, decide_true, decide_false, Bool.not_true, Bool.not_false, Bool.and_true, Bool.true_and, Bool.and_false, Bool.false_and, Bool.or_true, Bool.true_or, Bool.or_false, Bool.false_or, Bool.not_not]
      rw [RComR_open]
      rintro v1 v2 v3 v4 hv
      refine G.drew ?_
      try simp (maxSteps := 2000000) only [↓RG, true_and, and_true, beq_true, beq_false, Bool.true_beq, Bool.false_beq, BEq.rfl, Int.reduceEq, Int.reduceLT, Int.reduceLE, Nat.reduceEqDiff, decide_true, decide_false, Bool.not_true, Bool.not_false, Bool.and_true, Bool.true_and, Bool.and_false, Bool.false_and, Bool.or_true, Bool.true_or, Bool.or_false, Bool.false_or, Bool.not_not]
      by_cases he : v = x.seen[k].version
      · rw [if_pos he] at hpr
        try simp (maxSteps := 2000000) only [↓RG, true_and, and_true, beq_true, beq_false, Bool.true_beq, Bool.false_beq, BEq.rfl, Int.reduceEq, Int.reduceLT, Int.reduceLE, Nat.reduceEqDiff, decide_true, decide_false, Bool.not_true, Bool.not_false, Bool.and_true, Bool.true_and, Bool.and_false, Bool.false_and, Bool.or_true, Bool.true_or, Bool.or_false, Bool.false_or, Bool.not_not, eq_true he]
        rw [wsucc (by omega)]
        refine RComR_close b { x with pos := k + 1 } hv ?_
        exact hJ (k + 1) ⟨by omega, by omega, hpr⟩ (by omega)
      · rw [if_neg he] at hK
        try simp (maxSteps := 2000000) only [↓RG, true_and, and_true, beq_true, beq_false, Bool.true_beq, Bool.false_beq, BEq.rfl, Int.reduceEq, Int.reduceLT, Int.reduceLE, Nat.reduceEqDiff, decide_true, decide_false, Bool.not_true, Bool.not_false, Bool.and_true, Bool.true_and, Bool.and_false, Bool.false_and, Bool.or_true, Bool.true_or, Bool.or_false, Bool.false_or, Bool.not_not, he]
        refine RComR_close b { x with pos := k } hv ?_
        refine s_ref23_Commit_out (x := { x with pos := k }) ?_
        exact hK
  · have hk3 : k = x.seen.length := by simp at h; omega
    subst hk3
    rw [Nat.sub_self] at hK
    unfold rLookN at hK
    refine RComR_close b { x with pos := x.seen.length } hv ?_
    refine s_ref23_Commit_write (x := { x with pos := x.seen.length }) ?_
    exact hK

theorem s_ref23_Commit_locks {a : TAns} (ho : ROk x) (hp : x.ph = 0 ∨ x.ph = 1 ∨ x.ph = 4) [i : SelOb L RComR b x C] (hK : G w0 (C (ob RComR b (rLocks x a))) (K (.tuple #[]))) : G w0 L (CP Tryz.prog Fn.ref23_Commit_locks [ptr b 0, .agg (TAns.cells a).toArray] K) := by
  refine i.use (fun M hK => ?_) hK
  refine C_ref23_Commit_locks ?_
  unfold S_ref23_Commit_locks
  have hfew := ho.len.few
  have hwas := ho.len.was
  have hseen := ho.len.seen
  have hpos := ho.len.pos
  refine G.box fun q => ?_
  rw [G_swap, RComR_open]
  rintro v1 v2 v3 v4 hv
  unfold rLocks at hK
  by_cases h1 : x.ph = 1
  · rw [if_pos h1] at hK
    have g := ho.p01 (.inr h1)
    cases hd : a.done
    · rw [if_pos hd, RComR_open] at hK
      repeat' (first | (with_reducible refine G.joini0 ?_) | (with_reducible refine G.joini1 ?_) | (with_reducible refine G.drew ?_) | (simp (maxSteps := 2000000) only [↓RG, true_and, and_true, beq_true, beq_false, Bool.true_beq, Bool.false_beq, BEq.rfl, Int.reduceEq, Int.reduceLT, Int.reduceLE, Nat.reduceEqDiff, decide_true, decide_false, Bool.not_true, Bool.not_false, Bool.and_true, Bool.true_and, Bool.and_false, Bool.false_and, Bool.or_true, Bool.true_or, Bool.or_false, Bool.false_or, Bool.not_not, eq_true h1, condHNF hd]))
      exact (hK v1 v2 v3 v4 hv).sub
    · rw [if_neg (by rw [hd]; decide)] at hK
      repeat' (first | (with_reducible refine G.joini0 ?_) | (with_reducible refine G.joini1 ?_) | (with_reducible refine G.drew ?_) | (simp (maxSteps := 2000000) only [↓RG, true_and, and_true, beq_true, beq_false, Bool.true_beq, Bool.false_beq, BEq.rfl, Int.reduceEq, Int.reduceLT, Int.reduceLE, Nat.reduceEqDiff, decide_true, decide_false, Bool.not_true, Bool.not_false, Bool.and_true, Bool.true_and, Bool.and_false, Bool.false_and, Bool.or_true, Bool.true_or, Bool.or_false, Bool.false_or, Bool.not_not, eq_true h1, condHNT hd]))
      refine G.build tLockE [x.lock] rfl (by simp) rfl fun v6 h6 => ?_
      repeat' (first | (with_reducible refine G.joini0 ?_) | (with_reducible refine G.joini1 ?_) | (with_reducible refine G.drew ?_) | (simp (maxSteps := 2000000) only [↓RG, true_and, and_true, beq_true, beq_false, Bool.true_beq, Bool.false_beq, BEq.rfl, Int.reduceEq, Int.reduceLT, Int.reduceLE, Nat.reduceEqDiff, decide_true, decide_false, Bool.not_true, Bool.not_false, Bool.and_true, Bool.true_and, Bool.and_false, Bool.false_and, Bool.or_true, Bool.true_or, Bool.or_false, Bool.false_or, Bool.not_not]))
      refine G.append (xs := x.was) (ys := [x.lock]) (by simp; omega) (by simp [maxLen]; omega) fun v5 h5 => ?_
      repeat' (first | (with_reducible refine G.joini0 ?_) | (with_reducible refine G.joini1 ?_) | (with_reducible refine G.drew ?_) | (simp (maxSteps := 2000000) only [↓RG, true_and, and_true, beq_true, beq_false, Bool.true_beq, Bool.false_beq, BEq.rfl, Int.reduceEq, Int.reduceLT, Int.reduceLE, Nat.reduceEqDiff, decide_true, decide_false, Bool.not_true, Bool.not_false, Bool.and_true, Bool.true_and, Bool.and_false, Bool.false_and, Bool.or_true, Bool.true_or, Bool.or_false, Bool.false_or, Bool.not_not]))
      rw [wsucc (by omega)]
      refine G.cond (fun h => ?_) (fun h => ?_)
      · rw [if_pos (by simp at h; omega), RComR_open] at hK
        repeat' (first | (with_reducible refine G.joini0 ?_) | (with_reducible refine G.joini1 ?_) | (with_reducible refine G.drew ?_) | (simp (maxSteps := 2000000) only [↓RG, true_and, and_true, beq_true, beq_false, Bool.true_beq, Bool.false_beq, BEq.rfl, Int.reduceEq, Int.reduceLT, Int.reduceLE, Nat.reduceEqDiff, decide_true, decide_false, Bool.not_true, Bool.not_false, Bool.and_true, Bool.true_and, Bool.and_false, Bool.false_and, Bool.or_true, Bool.true_or, Bool.or_false, Bool.false_or, Bool.not_not]))
        exact (hK v1 v2 v3 v5 ⟨hv.1, hv.2.1, hv.2.2.1, h5⟩).sub
      · rw [if_neg (by simp at h; omega), RComR_open] at hK
        exact (hK v1 v2 v3 v5 ⟨hv.1, hv.2.1, hv.2.2.1, h5⟩).sub
  · rw [if_neg h1] at hK
    cases hh : a.lock.held
    · rw [if_neg (by rw [hh]; decide)] at hK
      by_cases h0 : x.ph = 0
      · rw [if_pos h0, RComR_open] at hK
        repeat' (first | (with_reducible refine G.joini0 ?_) | (with_reducible refine G.joini1 ?_) | (with_reducible refine G.drew ?_) | (simp (maxSteps := 2000000) only [↓RG, true_and, and_true, beq_true, beq_false, Bool.true_beq, Bool.false_beq, BEq.rfl, Int.reduceEq, Int.reduceLT, Int.reduceLE, Nat.reduceEqDiff, decide_true, decide_false, Bool.not_true, Bool.not_false, Bool.and_true, Bool.true_and, Bool.and_false, Bool.false_and, Bool.or_true, Bool.true_or, Bool.or_false, Bool.false_or, Bool.not_not, h1, eq_true h0, condHF hh]))
        exact (hK v1 v2 v3 v4 hv).sub
      · rw [if_neg h0] at hK
        have h4 : x.ph = 4 := by omega
        have g := ho.p4 h4
        have e := elem_of g
        have hg : x.seen.getD x.pos ⟨0, 0⟩ = x.seen[x.pos] := by simp [g]
        rw [hg] at hK
        repeat' (first | (with_reducible refine G.joini0 ?_) | (with_reducible refine G.joini1 ?_) | (with_reducible refine G.drew ?_) | (simp (maxSteps := 2000000) only [↓RG, true_and, and_true, beq_true, beq_false, Bool.true_beq, Bool.false_beq, BEq.rfl, Int.reduceEq, Int.reduceLT, Int.reduceLE, Nat.reduceEqDiff, decide_true, decide_false, Bool.not_true, Bool.not_false, Bool.and_true, Bool.true_and, Bool.and_false, Bool.false_and, Bool.or_true, Bool.true_or, Bool.or_false, Bool.false_or, Bool.not_not, h1, h0, condHF hh, Nat.reduceAdd]))
        by_cases he : a.lock.version = x.seen[x.pos].version
        · rw [if_pos he] at hK
          repeat' (first | (with_reducible refine G.joini0 ?_) | (with_reducible refine G.joini1 ?_) | (with_reducible refine G.drew ?_) | (simp (maxSteps := 2000000) only [↓RG, true_and, and_true, beq_true, beq_false, Bool.true_beq, Bool.false_beq, BEq.rfl, Int.reduceEq, Int.reduceLT, Int.reduceLE, Nat.reduceEqDiff, decide_true, decide_false, Bool.not_true, Bool.not_false, Bool.and_true, Bool.true_and, Bool.and_false, Bool.false_and, Bool.or_true, Bool.true_or, Bool.or_false, Bool.false_or, Bool.not_not, eq_true he]))
          rw [wsucc (by omega)]
          refine RComR_close b { x with pos := x.pos + 1 } hv ?_
          refine s_ref23_Commit_look (x := { x with pos := x.pos + 1 }) ⟨hfew, hwas, hseen, by simp only; omega⟩ g ?_
          exact hK.sub
        · rw [if_neg he] at hK
          repeat' (first | (with_reducible refine G.joini0 ?_) | (with_reducible refine G.joini1 ?_) | (with_reducible refine G.drew ?_) | (simp (maxSteps := 2000000) only [↓RG, true_and, and_true, beq_true, beq_false, Bool.true_beq, Bool.false_beq, BEq.rfl, Int.reduceEq, Int.reduceLT, Int.reduceLE, Nat.reduceEqDiff, decide_true, decide_false, Bool.not_true, Bool.not_false, Bool.and_true, Bool.true_and, Bool.and_false, Bool.false_and, Bool.or_true, Bool.true_or, Bool.or_false, Bool.false_or, Bool.not_not, he]))
          refine RComR_close b x hv ?_
          refine s_ref23_Commit_out (x := x) ?_
          exact hK.sub
    · rw [if_pos hh] at hK
      repeat' (first | (with_reducible refine G.joini0 ?_) | (with_reducible refine G.joini1 ?_) | (with_reducible refine G.drew ?_) | (simp (maxSteps := 2000000) only [↓RG, true_and, and_true, beq_true, beq_false, Bool.true_beq, Bool.false_beq, BEq.rfl, Int.reduceEq, Int.reduceLT, Int.reduceLE, Nat.reduceEqDiff, decide_true, decide_false, Bool.not_true, Bool.not_false, Bool.and_true, Bool.true_and, Bool.and_false, Bool.false_and, Bool.or_true, Bool.true_or, Bool.or_false, Bool.false_or, Bool.not_not, h1, condHT hh, Nat.reduceAdd]))
      refine s_ref23_Step_held (p := x.pat) (x := a.lock) (rest := x.rest v1 v2 v3 v4) ?_
      cases hr : (x.pat.rheld a.lock.owner).2
      · rw [if_neg (by rw [hr]; decide)] at hK
        repeat' (first | (with_reducible refine G.joini0 ?_) | (with_reducible refine G.joini1 ?_) | (with_reducible refine G.drew ?_) | (simp (maxSteps := 2000000) only [↓RG, true_and, and_true, beq_true, beq_false, Bool.true_beq, Bool.false_beq, BEq.rfl, Int.reduceEq, Int.reduceLT, Int.reduceLE, Nat.reduceEqDiff, decide_true, decide_false, Bool.not_true, Bool.not_false, Bool.and_true, Bool.true_and, Bool.and_false, Bool.false_and, Bool.or_true, Bool.true_or, Bool.or_false, Bool.false_or, Bool.not_not, Nat.reduceAdd]))
        refine RComR_close b { x with pat := (x.pat.rheld a.lock.owner).1 } hv ?_
        refine s_ref23_Commit_out (x := { x with pat := (x.pat.rheld a.lock.owner).1 }) ?_
        repeat' (first | (with_reducible refine G.joini0 ?_) | (with_reducible refine G.joini1 ?_) | (with_reducible refine G.drew ?_) | (simp (maxSteps := 2000000) only [↓RG, true_and, and_true, beq_true, beq_false, Bool.true_beq, Bool.false_beq, BEq.rfl, Int.reduceEq, Int.reduceLT, Int.reduceLE, Nat.reduceEqDiff, decide_true, decide_false, Bool.not_true, Bool.not_false, Bool.and_true, Bool.true_and, Bool.and_false, Bool.false_and, Bool.or_true, Bool.true_or, Bool.or_false, Bool.false_or, Bool.not_not]))
        exact hK.sub
      · rw [if_pos hr, RComR_open] at hK
        repeat' (first | (with_reducible refine G.joini0 ?_) | (with_reducible refine G.joini1 ?_) | (with_reducible refine G.drew ?_) | (simp (maxSteps := 2000000) only [↓RG, true_and, and_true, beq_true, beq_false, Bool.true_beq, Bool.false_beq, BEq.rfl, Int.reduceEq, Int.reduceLT, Int.reduceLE, Nat.reduceEqDiff, decide_true, decide_false, Bool.not_true, Bool.not_false, Bool.and_true, Bool.true_and, Bool.and_false, Bool.false_and, Bool.or_true, Bool.true_or, Bool.or_false, Bool.false_or, Bool.not_not]))
        exact (hK v1 v2 v3 v4 hv).sub

theorem s_ref23_Commit_Tell {a : TAns} (ho : x.pat.fin = 0 → ROk x) [i : SelOb L RComR b x C] (hK : G w0 (C (ob RComR b (rTell x a))) (K (.tuple #[]))) : G w0 L (CP Tryz.prog Fn.ref23_Commit_Tell [ptr b 0, .agg (TAns.cells a).toArray] K) := by
  refine i.use (fun M hK => ?_) hK
  refine C_ref23_Commit_Tell ?_
  unfold S_ref23_Commit_Tell
  try simp (maxSteps := 2000000) only [fuse_and, fuse_or, fuse_step, fuse_pair, fuse_in, andP_true]
  refine G.box fun q => ?_
  rw [G_swap, RComR_open]
  rintro v1 v2 v3 v4 hv
  refine G.drew ?_
  try simp (maxSteps := 2000000) only [↓RG, true_and, and_true, beq_true, beq_false, Bool.true_beq, Bool.false_beq, BEq.rfl, Int.reduceEq, Int.reduceLT, Int.reduceLE, Nat.reduceEqDiff, decide_true, decide_false, Bool.not_true, Bool.not_false, Bool.and_true, Bool.true_and, Bool.and_false, Bool.false_and, Bool.or_true, Bool.true_or, Bool.or_false, Bool.false_or, Bool.not_not, Nat.reduceAdd]
  unfold rTell at hK
  by_cases hf : x.pat.fin = 0
  · rw [if_pos hf] at hK
    have ho := ho hf
    have hpos := ho.len.pos
    have hst := ho.st
    try simp (maxSteps := 2000000) only [↓RG, true_and, and_true, beq_true, beq_false, Bool.true_beq, Bool.false_beq, BEq.rfl, Int.reduceEq, Int.reduceLT, Int.reduceLE, Nat.reduceEqDiff, decide_true, decide_false, Bool.not_true, Bool.not_false, Bool.and_true, Bool.true_and, Bool.and_false, Bool.false_and, Bool.or_true, Bool.true_or, Bool.or_false, Bool.false_or, Bool.not_not, eq_true hf]
    refine s_ref23_Step_failed (p := x.pat) (a := a) (rest := x.rest v1 v2 v3 v4) ?_
    by_cases he : a.err = 0
    · rw [if_pos he] at hK
      have e0 : x.pat.rfail a.err = x.pat := by unfold Pat.rfail; rw [if_pos he]
      rw [e0]
      by_cases c0 : x.ph = 0
      · rw [if_pos (.inl c0)] at hK
        repeat' (first | (with_reducible refine G.joini0 ?_) | (with_reducible refine G.joini1 ?_) | (with_reducible refine G.drew ?_) | (simp (maxSteps := 2000000) only [↓RG, true_and, and_true, beq_true, beq_false, Bool.true_beq, Bool.false_beq, BEq.rfl, Int.reduceEq, Int.reduceLT, Int.reduceLE, Nat.reduceEqDiff, decide_true, decide_false, Bool.not_true, Bool.not_false, Bool.and_true, Bool.true_and, Bool.and_false, Bool.false_and, Bool.or_true, Bool.true_or, Bool.or_false, Bool.false_or, Bool.not_not, eq_true he, eq_true c0]))
        refine RComR_close b x hv ?_
        refine s_ref23_Commit_locks (x := x) (a := a) ho (.inl c0) ?_
        exact hK.sub
      by_cases c1 : x.ph = 1
      · rw [if_pos (.inr (.inl c1))] at hK
        repeat' (first | (with_reducible refine G.joini0 ?_) | (with_reducible refine G.joini1 ?_) | (with_reducible refine G.drew ?_) | (simp (maxSteps := 2000000) only [↓RG, true_and, and_true, beq_true, beq_false, Bool.true_beq, Bool.false_beq, BEq.rfl, Int.reduceEq, Int.reduceLT, Int.reduceLE, Nat.reduceEqDiff, decide_true, decide_false, Bool.not_true, Bool.not_false, Bool.and_true, Bool.true_and, Bool.and_false, Bool.false_and, Bool.or_true, Bool.true_or, Bool.or_false, Bool.false_or, Bool.not_not, eq_true he, c0, eq_true c1]))
        refine RComR_close b x hv ?_
        refine s_ref23_Commit_locks (x := x) (a := a) ho (.inr (.inl c1)) ?_
        exact hK.sub
      by_cases c4 : x.ph = 4
      · rw [if_pos (.inr (.inr c4))] at hK
        repeat' (first | (with_reducible refine G.joini0 ?_) | (with_reducible refine G.joini1 ?_) | (with_reducible refine G.drew ?_) | (simp (maxSteps := 2000000) only [↓RG, true_and, and_true, beq_true, beq_false, Bool.true_beq, Bool.false_beq, BEq.rfl, Int.reduceEq, Int.reduceLT, Int.reduceLE, Nat.reduceEqDiff, decide_true, decide_false, Bool.not_true, Bool.not_false, Bool.and_true, Bool.true_and, Bool.and_false, Bool.false_and, Bool.or_true, Bool.true_or, Bool.or_false, Bool.false_or, Bool.not_not, eq_true he, c0, c1, eq_true c4]))
        refine RComR_close b x hv ?_
        refine s_ref23_Commit_locks (x := x) (a := a) ho (.inr (.inr c4)) ?_
        exact hK.sub
      rw [if_neg (by omega)] at hK
      by_cases c2 : x.ph = 2
      · rw [if_pos c2] at hK
        repeat' (first | (with_reducible refine G.joini0 ?_) | (with_reducible refine G.joini1 ?_) | (with_reducible refine G.drew ?_) | (simp (maxSteps := 2000000) only [↓RG, true_and, and_true, beq_true, beq_false, Bool.true_beq, Bool.false_beq, BEq.rfl, Int.reduceEq, Int.reduceLT, Int.reduceLE, Nat.reduceEqDiff, decide_true, decide_false, Bool.not_true, Bool.not_false, Bool.and_true, Bool.true_and, Bool.and_false, Bool.false_and, Bool.or_true, Bool.true_or, Bool.or_false, Bool.false_or, Bool.not_not, eq_true he, c0, c1, eq_true c2, c4]))
        refine G.cond (fun h => ?_) (fun h => ?_)
        · rw [if_pos (by simpa using h)] at hK
          refine RComR_close b { x with t := a.word, ph := 3 } hv ?_
          refine s_ref23_Commit_out (x := { x with t := a.word, ph := 3 }) ?_
          exact hK.sub
        · rw [if_neg (by simpa using h), RComR_open] at hK
          exact (hK v1 v2 v3 v4 hv).sub
      rw [if_neg c2] at hK
      by_cases c3 : x.ph = 3
      · rw [if_pos c3] at hK
        cases hd : a.done
        · rw [if_pos hd, RComR_open] at hK
          repeat' (first | (with_reducible refine G.joini0 ?_) | (with_reducible refine G.joini1 ?_) | (with_reducible refine G.drew ?_) | (simp (maxSteps := 2000000) only [↓RG, true_and, and_true, beq_true, beq_false, Bool.true_beq, Bool.false_beq, BEq.rfl, Int.reduceEq, Int.reduceLT, Int.reduceLE, Nat.reduceEqDiff, decide_true, decide_false, Bool.not_true, Bool.not_false, Bool.and_true, Bool.true_and, Bool.and_false, Bool.false_and, Bool.or_true, Bool.true_or, Bool.or_false, Bool.false_or, Bool.not_not, eq_true he, c0, c1, c2, eq_true c3, c4, condHNF hd]))
          exact (hK v1 v2 v3 v4 hv).sub
        · rw [if_neg (by rw [hd]; decide)] at hK
          repeat' (first | (with_reducible refine G.joini0 ?_) | (with_reducible refine G.joini1 ?_) | (with_reducible refine G.drew ?_) | (simp (maxSteps := 2000000) only [↓RG, true_and, and_true, beq_true, beq_false, Bool.true_beq, Bool.false_beq, BEq.rfl, Int.reduceEq, Int.reduceLT, Int.reduceLE, Nat.reduceEqDiff, decide_true, decide_false, Bool.not_true, Bool.not_false, Bool.and_true, Bool.true_and, Bool.and_false, Bool.false_and, Bool.or_true, Bool.true_or, Bool.or_false, Bool.false_or, Bool.not_not, eq_true he, c0, c1, c2, eq_true c3, c4, condHNT hd]))
          refine G.cond (fun h => ?_) (fun h => ?_)
          · rw [if_pos (by simpa using h)] at hK
            refine RComR_close b { x with ph := 4, pos := 0 } hv ?_
            refine s_ref23_Commit_write (x := { x with ph := 4, pos := 0 }) ?_
            exact hK.sub
          · rw [if_neg (by simpa using h)] at hK
            refine RComR_close b { x with ph := 4, pos := 0 } hv ?_
            refine s_ref23_Commit_look (x := { x with ph := 4, pos := 0 }) ⟨ho.len.few, ho.len.was, ho.len.seen, Nat.zero_le _⟩ (Nat.zero_le _) ?_
            exact hK.sub
      rw [if_neg c3] at hK
      by_cases c5 : x.ph = 5
      · rw [if_pos c5] at hK
        have g := ho.p5 c5
        repeat' (first | (with_reducible refine G.joini0 ?_) | (with_reducible refine G.joini1 ?_) | (with_reducible refine G.drew ?_) | (simp (maxSteps := 2000000) only [↓RG, true_and, and_true, beq_true, beq_false, Bool.true_beq, Bool.false_beq, BEq.rfl, Int.reduceEq, Int.reduceLT, Int.reduceLE, Nat.reduceEqDiff, decide_true, decide_false, Bool.not_true, Bool.not_false, Bool.and_true, Bool.true_and, Bool.and_false, Bool.false_and, Bool.or_true, Bool.true_or, Bool.or_false, Bool.false_or, Bool.not_not, eq_true he, c0, c1, c2, c3, c4, eq_true c5]))
        rw [wsucc (by omega)]
        refine G.cond (fun h => ?_) (fun h => ?_)
        · rw [if_pos (by simp at h; omega)] at hK
          refine RComR_close b { x with pos := x.pos + 1 } hv ?_
          refine s_ref23_Commit_free (x := { x with pos := x.pos + 1 }) ?_
          exact hK.sub
        · rw [if_neg (by simp at h; omega), RComR_open] at hK
          exact (hK v1 v2 v3 v4 hv).sub
      rw [if_neg c5] at hK
      by_cases c6 : x.ph = 6
      · rw [if_pos c6] at hK
        repeat' (first | (with_reducible refine G.joini0 ?_) | (with_reducible refine G.joini1 ?_) | (with_reducible refine G.drew ?_) | (simp (maxSteps := 2000000) only [↓RG, true_and, and_true, beq_true, beq_false, Bool.true_beq, Bool.false_beq, BEq.rfl, Int.reduceEq, Int.reduceLT, Int.reduceLE, Nat.reduceEqDiff, decide_true, decide_false, Bool.not_true, Bool.not_false, Bool.and_true, Bool.true_and, Bool.and_false, Bool.false_and, Bool.or_true, Bool.true_or, Bool.or_false, Bool.false_or, Bool.not_not, eq_true he, c0, c1, c2, c3, c4, c5, eq_true c6]))
        rw [wsucc (by omega)]
        refine G.cond (fun h => ?_) (fun h => ?_)
        · rw [if_pos (by simp at h; omega), RComR_open] at hK
          repeat' (first | (with_reducible refine G.joini0 ?_) | (with_reducible refine G.joini1 ?_) | (with_reducible refine G.drew ?_) | (simp (maxSteps := 2000000) only [↓RG, true_and, and_true, beq_true, beq_false, Bool.true_beq, Bool.false_beq, BEq.rfl, Int.reduceEq, Int.reduceLT, Int.reduceLE, Nat.reduceEqDiff, decide_true, decide_false, Bool.not_true, Bool.not_false, Bool.and_true, Bool.true_and, Bool.and_false, Bool.false_and, Bool.or_true, Bool.true_or, Bool.or_false, Bool.false_or, Bool.not_not, Nat.reduceAdd]))
          exact (hK v1 v2 v3 v4 hv).sub
        · rw [if_neg (by simp at h; omega), RComR_open] at hK
          exact (hK v1 v2 v3 v4 hv).sub
      rw [if_neg c6] at hK
      repeat' (first | (with_reducible refine G.joini0 ?_) | (with_reducible refine G.joini1 ?_) | (with_reducible refine G.drew ?_) | (simp (maxSteps := 2000000) only [↓RG, true_and, and_true, beq_true, beq_false, Bool.true_beq, Bool.false_beq, BEq.rfl, Int.reduceEq, Int.reduceLT, Int.reduceLE, Nat.reduceEqDiff, decide_true, decide_false, Bool.not_true, Bool.not_false, Bool.and_true, Bool.true_and, Bool.and_false, Bool.false_and, Bool.or_true, Bool.true_or, Bool.or_false, Bool.false_or, Bool.not_not, eq_true he, c0, c1, c2, c3, c4, c5, c6]))
      rw [wsucc (by omega)]
      refine G.cond (fun h => ?_) (fun h => ?_)
      · rw [if_pos (by simp at h; omega), RComR_open] at hK
        repeat' (first | (with_reducible refine G.joini0 ?_) | (with_reducible refine G.joini1 ?_) | (with_reducible refine G.drew ?_) | (simp (maxSteps := 2000000) only [↓RG, true_and, and_true, beq_true, beq_false, Bool.true_beq, Bool.false_beq, BEq.rfl, Int.reduceEq, Int.reduceLT, Int.reduceLE, Nat.reduceEqDiff, decide_true, decide_false, Bool.not_true, Bool.not_false, Bool.and_true, Bool.true_and, Bool.and_false, Bool.false_and, Bool.or_true, Bool.true_or, Bool.or_false, Bool.false_or, Bool.not_not, Nat.reduceAdd]))
        exact (hK v1 v2 v3 v4 hv).sub
      · rw [if_neg (by simp at h; omega), RComR_open] at hK
        exact (hK v1 v2 v3 v4 hv).sub
    · rw [if_neg he, RComR_open] at hK
      repeat' (first | (with_reducible refine G.joini0 ?_) | (with_reducible refine G.joini1 ?_) | (with_reducible refine G.drew ?_) | (simp (maxSteps := 2000000) only [↓RG, true_and, and_true, beq_true, beq_false, Bool.true_beq, Bool.false_beq, BEq.rfl, Int.reduceEq, Int.reduceLT, Int.reduceLE, Nat.reduceEqDiff, decide_true, decide_false, Bool.not_true, Bool.not_false, Bool.and_true, Bool.true_and, Bool.and_false, Bool.false_and, Bool.or_true, Bool.true_or, Bool.or_false, Bool.false_or, Bool.not_not, he]))
      exact (hK v1 v2 v3 v4 hv).sub
  · rw [if_neg hf, RComR_open] at hK
    try simp (maxSteps := 2000000) only [↓RG, true_and, and_true, beq_true, beq_false, Bool.true_beq, Bool.false_beq, BEq.rfl, Int.reduceEq, Int.reduceLT, Int.reduceLE, Nat.reduceEqDiff, decide_true, decide_false, Bool.not_true, Bool.not_false, Bool.and_true, Bool.true_and, Bool.and_false, Bool.false_and, Bool.or_true, Bool.true_or, Bool.or_false, Bool.false_or, Bool.not_not, hf]
    exact (hK v1 v2 v3 v4 hv).sub

theorem s_ref23_Commit_Next (ho : ROk x) [i : SelOb L RComR b x C] (hK : G w0 L (K (.agg (TOp.cells (rNext x)).toArray))) : G w0 L (CP Tryz.prog Fn.ref23_Commit_Next [ptr b 0] K) := by
  refine i.ro (fun M hK => ?_) hK
  rw [RComR_open] at *
  rintro v1 v2 v3 v4 hv
  have hK := hK v1 v2 v3 v4 hv
  have hst := ho.st
  have hwas := ho.len.was
  refine C_ref23_Commit_Next ?_
  unfold S_ref23_Commit_Next
  refine G.new fun q => ?_
  try simp (maxSteps := 2000000) only [↓RG, true_and, and_true, beq_true, beq_false, Bool.true_beq, Bool.false_beq, BEq.rfl, Int.reduceEq, Int.reduceLT, Int.reduceLE, Nat.reduceEqDiff, decide_true, decide_false, Bool.not_true, Bool.not_false, Bool.and_true, Bool.true_and, Bool.and_false, Bool.false_and, Bool.or_true, Bool.true_or, Bool.or_false, Bool.false_or, Bool.not_not]
  unfold rNext at hK
  by_cases c0 : x.ph = 0
  · rw [if_pos c0] at hK
    have hp := (ho.p01 (.inl c0)).1
    have e := elem_of hp
    have hg : x.stripes.getD x.pos 0 = x.stripes[x.pos] := by simp [hp]
    rw [hg] at hK
    repeat' (first | (with_reducible refine G.joini0 ?_) | (with_reducible refine G.joini1 ?_) | (with_reducible refine G.drew ?_) | (simp (maxSteps := 2000000) only [↓RG, true_and, and_true, beq_true, beq_false, Bool.true_beq, Bool.false_beq, BEq.rfl, Int.reduceEq, Int.reduceLT, Int.reduceLE, Nat.reduceEqDiff, decide_true, decide_false, Bool.not_true, Bool.not_false, Bool.and_true, Bool.true_and, Bool.and_false, Bool.false_and, Bool.or_true, Bool.true_or, Bool.or_false, Bool.false_or, Bool.not_not, eq_true c0]))
    exact hK.sub
  rw [if_neg c0] at hK
  by_cases c1 : x.ph = 1
  · rw [if_pos c1] at hK
    have hp := (ho.p01 (.inr c1)).1
    have e := elem_of hp
    have hg : x.stripes.getD x.pos 0 = x.stripes[x.pos] := by simp [hp]
    rw [hg] at hK
    repeat' (first | (with_reducible refine G.joini0 ?_) | (with_reducible refine G.joini1 ?_) | (with_reducible refine G.drew ?_) | (simp (maxSteps := 2000000) only [↓RG, true_and, and_true, beq_true, beq_false, Bool.true_beq, Bool.false_beq, BEq.rfl, Int.reduceEq, Int.reduceLT, Int.reduceLE, Nat.reduceEqDiff, decide_true, decide_false, Bool.not_true, Bool.not_false, Bool.and_true, Bool.true_and, Bool.and_false, Bool.false_and, Bool.or_true, Bool.true_or, Bool.or_false, Bool.false_or, Bool.not_not, c0, eq_true c1, Nat.reduceAdd]))
    exact hK.sub
  rw [if_neg c1] at hK
  by_cases c2 : x.ph = 2
  · rw [if_pos c2] at hK
    repeat' (first | (with_reducible refine G.joini0 ?_) | (with_reducible refine G.joini1 ?_) | (with_reducible refine G.drew ?_) | (simp (maxSteps := 2000000) only [↓RG, true_and, and_true, beq_true, beq_false, Bool.true_beq, Bool.false_beq, BEq.rfl, Int.reduceEq, Int.reduceLT, Int.reduceLE, Nat.reduceEqDiff, decide_true, decide_false, Bool.not_true, Bool.not_false, Bool.and_true, Bool.true_and, Bool.and_false, Bool.false_and, Bool.or_true, Bool.true_or, Bool.or_false, Bool.false_or, Bool.not_not, c0, c1, eq_true c2]))
    exact hK.sub
  rw [if_neg c2] at hK
  by_cases c3 : x.ph = 3
  · rw [if_pos c3] at hK
    repeat' (first | (with_reducible refine G.joini0 ?_) | (with_reducible refine G.joini1 ?_) | (with_reducible refine G.drew ?_) | (simp (maxSteps := 2000000) only [↓RG, true_and, and_true, beq_true, beq_false, Bool.true_beq, Bool.false_beq, BEq.rfl, Int.reduceEq, Int.reduceLT, Int.reduceLE, Nat.reduceEqDiff, decide_true, decide_false, Bool.not_true, Bool.not_false, Bool.and_true, Bool.true_and, Bool.and_false, Bool.false_and, Bool.or_true, Bool.true_or, Bool.or_false, Bool.false_or, Bool.not_not, c0, c1, c2, eq_true c3]))
    exact hK.sub
  rw [if_neg c3] at hK
  by_cases c4 : x.ph = 4
  · rw [if_pos c4] at hK
    have hp := ho.p4 c4
    have e := elem_of hp
    have hg : x.seen.getD x.pos ⟨0, 0⟩ = x.seen[x.pos] := by simp [hp]
    rw [hg] at hK
    repeat' (first | (with_reducible refine G.joini0 ?_) | (with_reducible refine G.joini1 ?_) | (with_reducible refine G.drew ?_) | (simp (maxSteps := 2000000) only [↓RG, true_and, and_true, beq_true, beq_false, Bool.true_beq, Bool.false_beq, BEq.rfl, Int.reduceEq, Int.reduceLT, Int.reduceLE, Nat.reduceEqDiff, decide_true, decide_false, Bool.not_true, Bool.not_false, Bool.and_true, Bool.true_and, Bool.and_false, Bool.false_and, Bool.or_true, Bool.true_or, Bool.or_false, Bool.false_or, Bool.not_not, c0, c1, c2, c3, eq_true c4]))
    exact hK.sub
  rw [if_neg c4] at hK
  by_cases c5 : x.ph = 5
  · rw [if_pos c5] at hK
    have hp := ho.p5 c5
    have e := elem_of hp
    have hg : x.cells.getD x.pos ⟨0, 0⟩ = x.cells[x.pos] := by simp [hp]
    rw [hg] at hK
    repeat' (first | (with_reducible refine G.joini0 ?_) | (with_reducible refine G.joini1 ?_) | (with_reducible refine G.drew ?_) | (simp (maxSteps := 2000000) only [↓RG, true_and, and_true, beq_true, beq_false, Bool.true_beq, Bool.false_beq, BEq.rfl, Int.reduceEq, Int.reduceLT, Int.reduceLE, Nat.reduceEqDiff, decide_true, decide_false, Bool.not_true, Bool.not_false, Bool.and_true, Bool.true_and, Bool.and_false, Bool.false_and, Bool.or_true, Bool.true_or, Bool.or_false, Bool.false_or, Bool.not_not, c0, c1, c2, c3, c4, eq_true c5]))
    exact hK.sub
  rw [if_neg c5] at hK
  by_cases c6 : x.ph = 6
  · rw [if_pos c6] at hK
    have hp := ho.p6 c6
    have e := elem_of hp
    have hg : x.stripes.getD x.pos 0 = x.stripes[x.pos] := by simp [hp]
    rw [hg] at hK
    repeat' (first | (with_reducible refine G.joini0 ?_) | (with_reducible refine G.joini1 ?_) | (with_reducible refine G.drew ?_) | (simp (maxSteps := 2000000) only [↓RG, true_and, and_true, beq_true, beq_false, Bool.true_beq, Bool.false_beq, BEq.rfl, Int.reduceEq, Int.reduceLT, Int.reduceLE, Nat.reduceEqDiff, decide_true, decide_false, Bool.not_true, Bool.not_false, Bool.and_true, Bool.true_and, Bool.and_false, Bool.false_and, Bool.or_true, Bool.true_or, Bool.or_false, Bool.false_or, Bool.not_not, c0, c1, c2, c3, c4, c5, eq_true c6]))
    exact hK.sub
  rw [if_neg c6] at hK
  have c7 : x.ph = 7 := by omega
  have hp := ho.p7 c7
  have hp2 : x.pos < x.stripes.length := by omega
  have e := elem_of hp
  have e2 := elem_of hp2
  have hg : x.stripes.getD x.pos 0 = x.stripes[x.pos] := by simp [hp2]
  have hg2 : x.was.getD x.pos zeroLock = x.was[x.pos] := by simp [hp]
  rw [hg, hg2] at hK
  repeat' (first | (with_reducible refine G.joini0 ?_) | (with_reducible refine G.joini1 ?_) | (with_reducible refine G.drew ?_) | (simp (maxSteps := 2000000) only [↓RG, true_and, and_true, beq_true, beq_false, Bool.true_beq, Bool.false_beq, BEq.rfl, Int.reduceEq, Int.reduceLT, Int.reduceLE, Nat.reduceEqDiff, decide_true, decide_false, Bool.not_true, Bool.not_false, Bool.and_true, Bool.true_and, Bool.and_false, Bool.false_and, Bool.or_true, Bool.true_or, Bool.or_false, Bool.false_or, Bool.not_not, c0, c1, c2, c3, c4, c5, c6]))
  exact hK.sub

theorem s_ref23_NewCommit {me sp stamp n wide : Int} {u v : Value} {seen : List TSeen} {cells : List TCell} [r1 : Rd w0 L u tSeenE 2 seen] [r2 : Rd w0 L v tCellE 2 cells] (h1 : seen.length ≤ 100000) (h2 : cells.length ≤ 100000)
    (hK : ∀ b, G w0 (ob RComR b (rNew me sp stamp seen cells (marked (hasStripe cells n wide) 16)) :: L) (K (ptr b 0))) : G w0 L (CP Tryz.prog Fn.ref23_NewCommit [i64 me, i64 sp, u64 stamp, u, v, i64 n, i64 wide] K) := by
  refine C_ref23_NewCommit ?_
  unfold S_ref23_NewCommit
  refine s_ref23_begin ?_
  refine G.nilsl tSeenE ?_
  refine G.append (xs := []) (ys := seen) (by simp; omega) (by simp [maxLen]; omega) fun v1 hv1 => ?_
  refine G.nilsl tCellE ?_
  refine G.append (xs := []) (ys := cells) (by simp; omega) (by simp [maxLen]; omega) fun v2 hv2 => ?_
  rw [List.nil_append, List.nil_append]
  try simp (maxSteps := 2000000) only [↓RG, true_and, and_true, beq_true, beq_false, Bool.true_beq, Bool.false_beq, BEq.rfl, Int.reduceEq, Int.reduceLT, Int.reduceLE, Nat.reduceEqDiff, decide_true, decide_false, Bool.not_true, Bool.not_false, Bool.and_true, Bool.true_and, Bool.and_false, Bool.false_and, Bool.or_true, Bool.true_or, Bool.or_false, Bool.false_or, Bool.not_not]
  refine G.box fun b => ?_
  try simp (maxSteps := 2000000) only [↓RG, true_and, and_true, beq_true, beq_false, Bool.true_beq, Bool.false_beq, BEq.rfl, Int.reduceEq, Int.reduceLT, Int.reduceLE, Nat.reduceEqDiff, decide_true, decide_false, Bool.not_true, Bool.not_false, Bool.and_true, Bool.true_and, Bool.and_false, Bool.false_and, Bool.or_true, Bool.true_or, Bool.or_false, Bool.false_or, Bool.not_not]
  refine s_ref7_Stripes (cs := cells) (by omega) fun v3 hv3 => ?_
  try simp (maxSteps := 2000000) only [↓RG, true_and, and_true, beq_true, beq_false, Bool.true_beq, Bool.false_beq, BEq.rfl, Int.reduceEq, Int.reduceLT, Int.reduceLE, Nat.reduceEqDiff, decide_true, decide_false, Bool.not_true, Bool.not_false, Bool.and_true, Bool.true_and, Bool.and_false, Bool.false_and, Bool.or_true, Bool.true_or, Bool.or_false, Bool.false_or, Bool.not_not]
  refine G.joini0 ?_
  refine G.nilsl tLockE ?_
  have hk := hK b
  rw [RComR_open] at hk
  have hk := hk v1 v2 v3 (.slice none 0 0) ⟨hv1, hv2, hv3, cells_slice⟩
  refine G.cond (fun h => ?_) (fun h => ?_)
  · have h0 : (marked (hasStripe cells n wide) 16).length = 0 := by simp at h; simp [h]
    try simp (maxSteps := 2000000) only [↓RG, true_and, and_true, beq_true, beq_false, Bool.true_beq, Bool.false_beq, BEq.rfl, Int.reduceEq, Int.reduceLT, Int.reduceLE, Nat.reduceEqDiff, decide_true, decide_false, Bool.not_true, Bool.not_false, Bool.and_true, Bool.true_and, Bool.and_false, Bool.false_and, Bool.or_true, Bool.true_or, Bool.or_false, Bool.false_or, Bool.not_not]
    refine G.pickAll (As := [own b [i64 (newPat me sp).me, i64 (newPat me sp).spins, i64 (newPat me sp).fin, i64 (newPat me sp).err, i64 (newPat me sp).by_, u64 stamp, v1, v2, v3, .slice none 0 0, u64 0, .bool false, i64 0, i64 2, i64 0, u64 0, i64 0, i64 0, i64 0], sl tSeenE v1 seen, sl tCellE v2 cells, sl intE v3 (marked (hasStripe cells n wide) 16), sl tLockE (.slice none 0 0) []]) ?_
    simp only [rNew, h0, if_true] at hk
    exact hk
  · have h0 : ¬ (marked (hasStripe cells n wide) 16).length = 0 := by simp at h; simp [h]
    refine G.pickAll (As := [own b [i64 (newPat me sp).me, i64 (newPat me sp).spins, i64 (newPat me sp).fin, i64 (newPat me sp).err, i64 (newPat me sp).by_, u64 stamp, v1, v2, v3, .slice none 0 0, u64 0, .bool false, i64 0, i64 0, i64 0, u64 0, i64 0, i64 0, i64 0], sl tSeenE v1 seen, sl tCellE v2 cells, sl intE v3 (marked (hasStripe cells n wide) 16), sl tLockE (.slice none 0 0) []]) ?_
    simp only [rNew, h0, if_false] at hk
    exact hk

end
end Go.Proofs.YtokbiojkpldfeaaGreat.S
