import Derived.Test.YtoealglbimbbmaaGreatDoorReads
namespace Go.Proofs.YtoealglbimbbmaaGreatDoor.S
open Go Go.Proofs
set_option linter.unusedVariables false
set_option linter.unusedSimpArgs false
structure Pat where
 me : Int
 spins : Int
 fin : Int
 by_ : Int
 err : Int
abbrev Pat.cells (p : Pat) (rest : List Value) : List Value := i64 p.me :: i64 p.spins :: i64 p.fin :: i64 p.by_ :: i64 p.err :: rest
def newPat (me spins : Int) : Pat := ⟨me, held spins 0 4, 0, -1, 0⟩
def Pat.stop (p : Pat) (e er b : Int) : Pat := { p with fin := e, err := er, by_ := b }
def Pat.waits (p : Pat) (owner : Int) : Pat × Bool := if owner > p.me then (p, true) else ({ p with spins := IntKind.wrap .i64 (p.spins - 1) }, decide (IntKind.wrap .i64 (p.spins - 1) ≥ 0))
def Pat.stopped (p : Pat) (err : Int) : Pat := if p.fin = 0 ∧ err ≠ 0 then p.stop 4 err (-1) else p
section
variable {w0 : Base} {L M : List Asn} {K : KV} {F : World → Prop} {C : Asn → List Asn} {b : Nat} {p : Pat} {rest : List Value}
theorem s_patience_New {me sp : Int} (hK : G w0 L (K (.agg ((newPat me sp).cells []).toArray))) : G w0 L (CP Tryz.prog Fn.patience_New [i64 me, i64 sp] K) := by
 refine C_patience_New ?_
 unfold S_patience_New
 refine G.new fun q => ?_
 refine gr ?_
 have e : (if (if (4 : Int) < sp then 4 else sp) > 0 then if (4 : Int) < sp then 4 else sp else 0) = held sp 0 4 := by unfold held; split <;> split <;> split <;> (try split) <;> omega
 rw [e]
 exact hK.sub
theorem s_patience_Patience_End [i : SelOb L ownR b (p.cells rest) C] (hK : G w0 L (K (i64 p.fin))) : G w0 L (CP Tryz.prog Fn.patience_Patience_End [ptr b 0] K) := by
 refine i.ro (fun M hK => ?_) hK
 refine C_patience_Patience_End ?_
 unfold S_patience_Patience_End
 refine gr ?_
 exact hK
theorem s_patience_Patience_By [i : SelOb L ownR b (p.cells rest) C] (hK : G w0 L (K (i64 p.by_))) : G w0 L (CP Tryz.prog Fn.patience_Patience_By [ptr b 0] K) := by
 refine i.ro (fun M hK => ?_) hK
 refine C_patience_Patience_By ?_
 unfold S_patience_Patience_By
 refine gr ?_
 exact hK
theorem s_patience_Patience_Err [i : SelOb L ownR b (p.cells rest) C] (hK : G w0 L (K (i64 p.err))) : G w0 L (CP Tryz.prog Fn.patience_Patience_Err [ptr b 0] K) := by
 refine i.ro (fun M hK => ?_) hK
 refine C_patience_Patience_Err ?_
 unfold S_patience_Patience_Err
 refine gr ?_
 exact hK
theorem s_patience_Patience_Stop {e er by_ : Int} [i : SelOb L ownR b (p.cells rest) C] (hK : G w0 (C (own b ((p.stop e er by_).cells rest))) (K (.tuple #[]))) : G w0 L (CP Tryz.prog Fn.patience_Patience_Stop [ptr b 0, i64 e, i64 er, i64 by_] K) := by
 refine i.use (fun M hK => ?_) hK
 refine C_patience_Patience_Stop ?_
 unfold S_patience_Patience_Stop
 refine gr ?_
 exact hK
theorem s_patience_Patience_Waits {x : TLock} [i : SelOb L ownR b (p.cells rest) C] (hK : G w0 (C (own b ((p.waits x.owner).1.cells rest))) (K (.bool (p.waits x.owner).2))) : G w0 L (CP Tryz.prog Fn.patience_Patience_Waits [ptr b 0, .agg #[u64 x.version, .bool x.held, i64 x.owner]] K) := by
 refine i.use (fun M hK => ?_) hK
 refine C_patience_Patience_Waits ?_
 unfold S_patience_Patience_Waits
 refine G.box fun q => ?_
 refine G.drew ?_
 refine gr ?_
 refine G.cond (fun h => ?_) (fun h => ?_)
 ·have : p.waits x.owner = (p, true) := by unfold Pat.waits; simp at h; simp [h]
  rw [this] at hK
  exact hK.sub
 ·have : p.waits x.owner = ({ p with spins := IntKind.wrap .i64 (p.spins - 1) }, decide (IntKind.wrap .i64 (p.spins - 1) ≥ 0)) := by unfold Pat.waits; simp at h; rw [if_neg (by omega)]
  rw [this] at hK
  refine gr ?_
  exact hK.sub
theorem s_patience_Patience_Stopped {a : TAns} [i : SelOb L ownR b (p.cells rest) C] (hK : G w0 (C (own b ((p.stopped a.err).cells rest))) (K (.bool (!decide ((p.stopped a.err).fin = 0))))) : G w0 L (CP Tryz.prog Fn.patience_Patience_Stopped [ptr b 0, .agg (TAns.cells a).toArray] K) := by
 refine i.use (fun M hK => ?_) hK
 refine C_patience_Patience_Stopped ?_
 unfold S_patience_Patience_Stopped
 try simp (maxSteps := 2000000) only [fuse_and, fuse_or, fuse_step, fuse_pair, fuse_in, andP_true]
 refine G.box fun q => ?_
 refine gr ?_
 refine G.all (decide (a.err ≠ 0)) (fun _ K hK => by refine gr ?_; simpa using hK) ?_
 refine G.joini0 ?_
 refine G.cond (fun h => ?_) (fun h => ?_)
 ·have : p.stopped a.err = p.stop 4 a.err (-1) := by unfold Pat.stopped; simp at h; simp [h]
  rw [this] at hK
  refine gr ?_
  refine s_patience_Patience_Stop (p := p) (rest := rest) ?_
  refine gr ?_
  exact hK.sub
 ·have : p.stopped a.err = p := by unfold Pat.stopped; simp at h; rw [if_neg (fun g => g.2 (h g.1))]
  rw [this] at hK
  refine gr ?_
  exact hK.sub
end
end Go.Proofs.YtoealglbimbbmaaGreatDoor.S
namespace Go.Proofs.YtoealglbimbbmaaGreatDoor.S
open Go Go.Proofs
set_option linter.unusedVariables false
set_option linter.unusedSimpArgs false
structure FetchS where
 pat : Pat
 place : Int
 stripe : Int
 stamp : Int
 state : Int
 lock : TLock
 word : Int
def zeroOp : TOp := ⟨0, 0, 0, 0, zeroLock, zeroLock⟩
def fetchNew (me place stripe sp stamp : Int) : FetchS := ⟨newPat me sp, place, stripe, stamp, 0, zeroLock, 0⟩
def fetchNext (f : FetchS) : TOp × Bool :=
 if f.pat.fin = 0 then (if f.state = 1 then (⟨1, f.place, 0, 0, zeroLock, zeroLock⟩, true) else (⟨3, f.stripe, 0, 0, zeroLock, zeroLock⟩, true)) else (zeroOp, false)
def fetchFound (f : FetchS) (l : TLock) : FetchS :=
 if l.held = true then (if (f.pat.waits l.owner).2 = true then { f with state := 0, pat := (f.pat.waits l.owner).1 } else { f with state := 0, pat := (f.pat.waits l.owner).1.stop 5 0 l.owner })
 else if l.version > f.stamp then { f with state := 0, pat := f.pat.stop 6 0 (-1) }
 else { f with state := 1, lock := l }
def fetchTell (f : FetchS) (a : TAns) : FetchS :=
 if (f.pat.stopped a.err).fin = 0 then
  (if f.state = 1 then { f with word := a.word, state := 2 }
   else if f.state = 2 ∧ a.lock = f.lock then { f with pat := f.pat.stop 2 0 (-1) }
   else fetchFound f a.lock)
 else { f with pat := f.pat.stopped a.err }
abbrev FetchS.rest (f : FetchS) : List Value := [i64 f.place, i64 f.stripe, u64 f.stamp, i64 f.state, u64 f.lock.version, .bool f.lock.held, i64 f.lock.owner, u64 f.word]
def FetchR (b : Nat) (f : FetchS) : Asn := own b (f.pat.cells f.rest)
section
variable {w0 : Base} {L M : List Asn} {K : KV} {F : World → Prop} {C : Asn → List Asn} {b : Nat} {f : FetchS}
theorem FetchR_open : ob FetchR b f = own b (f.pat.cells f.rest) := by rw [ob_eq, FetchR]
theorem s_fetch_New {me pl st sp sm : Int} (hK : ∀ b, G w0 (ob FetchR b (fetchNew me pl st sp sm) :: L) (K (ptr b 0))) : G w0 L (CP Tryz.prog Fn.fetch_New [i64 me, i64 pl, i64 st, i64 sp, u64 sm] K) := by
 refine C_fetch_New ?_
 unfold S_fetch_New
 refine s_patience_New ?_
 refine gr ?_
 refine G.box fun b => ?_
 refine gr ?_
 have h := hK b
 rw [FetchR_open] at h
 exact h
theorem s_fetch_Fetch_End [i : SelOb L FetchR b f C] (hK : G w0 L (K (i64 f.pat.fin))) : G w0 L (CP Tryz.prog Fn.fetch_Fetch_End [ptr b 0] K) := by
 refine i.ro (fun M hK => ?_) hK
 rw [FetchR_open] at *
 refine C_fetch_Fetch_End ?_
 unfold S_fetch_Fetch_End
 refine gr ?_
 refine s_patience_Patience_End (p := f.pat) (rest := f.rest) ?_
 exact hK
theorem s_fetch_Fetch_By [i : SelOb L FetchR b f C] (hK : G w0 L (K (i64 f.pat.by_))) : G w0 L (CP Tryz.prog Fn.fetch_Fetch_By [ptr b 0] K) := by
 refine i.ro (fun M hK => ?_) hK
 rw [FetchR_open] at *
 refine C_fetch_Fetch_By ?_
 unfold S_fetch_Fetch_By
 refine gr ?_
 refine s_patience_Patience_By (p := f.pat) (rest := f.rest) ?_
 exact hK
theorem s_fetch_Fetch_Next [i : SelOb L FetchR b f C] (hK : G w0 L (K (.tuple #[.agg (TOp.cells (fetchNext f).1).toArray, .bool (fetchNext f).2]))) : G w0 L (CP Tryz.prog Fn.fetch_Fetch_Next [ptr b 0] K) := by
 refine i.ro (fun M hK => ?_) hK
 rw [FetchR_open] at *
 refine C_fetch_Fetch_Next ?_
 unfold S_fetch_Fetch_Next
 refine G.new fun q => ?_
 refine gr ?_
 refine s_patience_Patience_End (p := f.pat) (rest := f.rest) ?_
 refine gr ?_
 unfold fetchNext at hK
 by_cases h : f.pat.fin = 0
 ·rw [if_pos h] at hK
  refine grf h ?_
  by_cases h2 : f.state = 1
  ·rw [if_pos h2] at hK
   refine grf h2 ?_
   exact hK.sub
  ·rw [if_neg h2] at hK
   refine grf h2 ?_
   exact hK.sub
 ·rw [if_neg h] at hK
  refine grf h ?_
  exact hK.sub
theorem s_fetch_Fetch_found {x : TLock} [i : SelOb L FetchR b f C] (hK : G w0 (C (ob FetchR b (fetchFound f x))) (K (.tuple #[]))) : G w0 L (CP Tryz.prog Fn.fetch_Fetch_found [ptr b 0, .agg #[u64 x.version, .bool x.held, i64 x.owner]] K) := by
 refine i.use (fun M hK => ?_) hK
 rw [FetchR_open] at *
 refine C_fetch_Fetch_found ?_
 unfold S_fetch_Fetch_found
 try simp (maxSteps := 2000000) only [fuse_and, fuse_or, fuse_step, fuse_pair, fuse_in, andP_true]
 refine G.box fun q => ?_
 refine gr ?_
 refine G.joini0 ?_
 unfold fetchFound at hK
 obtain ⟨v, h, o⟩ := x
 cases h
 ·rw [if_neg (by simp)] at hK
  refine gr ?_
  refine G.drew ?_
  refine gr ?_
  refine G.joini0 ?_
  refine G.cond (fun h => ?_) (fun h => ?_)
  ·rw [if_pos (by simpa using h)] at hK
   refine gr ?_
   refine s_patience_Patience_Stop (p := f.pat) (rest := [i64 f.place, i64 f.stripe, u64 f.stamp, i64 0, u64 f.lock.version, .bool f.lock.held, i64 f.lock.owner, u64 f.word]) ?_
   refine gr ?_
   exact hK.sub
  ·rw [if_neg (by simpa using h)] at hK
   refine gr ?_
   exact hK.sub
 ·rw [if_pos rfl] at hK
  refine gr ?_
  refine G.drew ?_
  refine gr ?_
  refine s_patience_Patience_Waits (p := f.pat) (x := ⟨v, true, o⟩) (rest := [i64 f.place, i64 f.stripe, u64 f.stamp, i64 0, u64 f.lock.version, .bool f.lock.held, i64 f.lock.owner, u64 f.word]) ?_
  refine gr ?_
  refine G.joini0 ?_
  cases hw : (f.pat.waits o).2
  ·rw [if_neg (by rw [hw]; decide)] at hK
   refine grf hw ?_
   refine G.drew ?_
   refine gr ?_
   refine s_patience_Patience_Stop (p := (f.pat.waits o).1) (rest := [i64 f.place, i64 f.stripe, u64 f.stamp, i64 0, u64 f.lock.version, .bool f.lock.held, i64 f.lock.owner, u64 f.word]) ?_
   refine gr ?_
   exact hK.sub
  ·rw [if_pos hw] at hK
   refine grf hw ?_
   exact hK.sub
theorem s_fetch_Fetch_Tell {a : TAns} [i : SelOb L FetchR b f C] (hK : G w0 (C (ob FetchR b (fetchTell f a))) (K (.tuple #[]))) : G w0 L (CP Tryz.prog Fn.fetch_Fetch_Tell [ptr b 0, .agg (TAns.cells a).toArray] K) := by
 refine i.use (fun M hK => ?_) hK
 rw [FetchR_open] at *
 refine C_fetch_Fetch_Tell ?_
 unfold S_fetch_Fetch_Tell
 try simp (maxSteps := 2000000) only [fuse_and, fuse_or, fuse_step, fuse_pair, fuse_in, andP_true]
 refine G.box fun q => ?_
 refine gr ?_
 refine G.drew ?_
 refine gr ?_
 refine s_patience_Patience_Stopped (p := f.pat) (a := a) ?_
 unfold fetchTell at hK
 by_cases hs : (f.pat.stopped a.err).fin = 0
 ·have hp : f.pat.stopped a.err = f.pat := by
   unfold Pat.stopped at hs ⊢; split
   ·rename_i h; rw [if_pos h] at hs; simp [Pat.stop] at hs
   ·rfl
  rw [if_pos hs] at hK
  rw [hp] at hs
  rw [hp]
  refine grf hs ?_
  refine G.joini0 ?_
  by_cases h1 : f.state = 1
  ·rw [if_pos h1] at hK
   refine grf h1 ?_
   refine G.joini0 ?_
   refine gr ?_
   exact hK.sub
  ·rw [if_neg h1] at hK
   refine grf h1 ?_
   refine G.joini0 ?_
   refine G.drew ?_
   refine gr ?_
   refine G.all (decide (a.lock = f.lock)) (fun _ K hK => by simp only [↓RG, RP, RB, BEq.rfl, Int.reduceEq, Int.reduceLT, Int.reduceLE, Nat.reduceEqDiff, TLock.eqb a.lock f.lock]; exact hK) ?_
   refine G.joini0 ?_
   refine G.cond (fun h => ?_) (fun h => ?_)
   ·rw [if_pos (by simpa using h)] at hK
    refine gr ?_
    refine s_patience_Patience_Stop (p := f.pat) (rest := f.rest) ?_
    refine gr ?_
    exact hK.sub
   ·rw [if_neg (by simpa using h), ← FetchR_open] at hK
    rw [G_swap, ← FetchR_open]
    refine gr ?_
    refine s_fetch_Fetch_found (f := f) (x := a.lock) ?_
    refine gr ?_
    exact hK.sub
 ·rw [if_neg hs] at hK
  refine grf hs ?_
  refine G.joini0 ?_
  refine gr ?_
  exact hK.sub
theorem s_fetch_Fetch_Word [i : SelOb L FetchR b f C] (hK : G w0 L (K (u64 (if f.pat.fin = 2 then f.word else 0)))) : G w0 L (CP Tryz.prog Fn.fetch_Fetch_Word [ptr b 0] K) := by
 refine i.ro (fun M hK => ?_) hK
 refine C_fetch_Fetch_Word ?_
 unfold S_fetch_Fetch_Word
 refine s_fetch_Fetch_End (f := f) ?_
 by_cases h : f.pat.fin = 2
 ·rw [if_pos h, FetchR_open] at hK
  refine grf h ?_
  rw [FetchR_open]
  refine gr ?_
  exact hK.sub
 ·rw [if_neg h] at hK
  refine grf h ?_
  exact hK.sub
theorem s_fetch_Fetch_Seen [i : SelOb L FetchR b f C] (hK : G w0 L (K (if f.pat.fin = 2 then .agg #[i64 f.stripe, u64 f.lock.version] else .agg #[i64 0, u64 0]))) : G w0 L (CP Tryz.prog Fn.fetch_Fetch_Seen [ptr b 0] K) := by
 refine i.ro (fun M hK => ?_) hK
 refine C_fetch_Fetch_Seen ?_
 unfold S_fetch_Fetch_Seen
 refine G.new fun q => ?_
 refine s_fetch_Fetch_End (f := f) ?_
 by_cases h : f.pat.fin = 2
 ·rw [if_pos h, FetchR_open] at hK
  refine grf h ?_
  refine G.drew ?_
  rw [FetchR_open]
  refine gr ?_
  exact hK.sub
 ·rw [if_neg h] at hK
  refine grf h ?_
  exact hK.sub
end
end Go.Proofs.YtoealglbimbbmaaGreatDoor.S
namespace Go.Proofs.YtoealglbimbbmaaGreatDoor.S
open Go Go.Proofs
set_option linter.unusedVariables false
set_option linter.unusedSimpArgs false
structure ExtS where
 pat : Pat
 seen : List TSeen
 loaded : Bool
 pos : Nat
 stamp : Int
def extNew (me sp : Int) (seen : List TSeen) : ExtS := ⟨newPat me sp, seen, false, 0, 0⟩
def ExtOk (x : ExtS) : Prop := x.pat.fin = 0 → x.loaded = true → x.pos < x.seen.length
def extNext (x : ExtS) : TOp × Bool :=
 if x.pat.fin = 0 then (if x.loaded = true then (⟨3, (x.seen.getD x.pos ⟨0, 0⟩).stripe, 0, 0, zeroLock, zeroLock⟩, true) else (⟨6, 0, 0, 0, zeroLock, zeroLock⟩, true)) else (zeroOp, false)
def extDone (x : ExtS) : ExtS := if x.pos = x.seen.length then { x with pat := x.pat.stop 2 0 (-1) } else x
def extTell (x : ExtS) (a : TAns) : ExtS :=
 if (x.pat.stopped a.err).fin = 0 then
  (if x.loaded = false then extDone { x with loaded := true, stamp := a.word }
   else if a.lock.held = true then (if (x.pat.waits a.lock.owner).2 = true then { x with pat := (x.pat.waits a.lock.owner).1 } else { x with pat := (x.pat.waits a.lock.owner).1.stop 5 0 a.lock.owner })
   else if a.lock.version = (x.seen.getD x.pos ⟨0, 0⟩).version then extDone { x with pos := x.pos + 1 }
   else { x with pat := x.pat.stop 5 0 (-1) })
 else { x with pat := x.pat.stopped a.err }
def ExtR (b : Nat) (x : ExtS) : Asn := exA fun v => star (pureA (Cells v [v])) (star (own b (x.pat.cells [v, .bool x.loaded, i64 x.pos, u64 x.stamp])) (sl tSeenE v x.seen))
section
variable {w0 : Base} {L M : List Asn} {K : KV} {F : World → Prop} {C : Asn → List Asn} {b : Nat} {x : ExtS}
theorem ExtR_open : G w0 (ob ExtR b x :: M) F = ∀ v, Cells v [v] → G w0 (own b (x.pat.cells [v, .bool x.loaded, i64 x.pos, u64 x.stamp]) :: sl tSeenE v x.seen :: M) F := by
 rw [ob_eq, ExtR]
 simp only [G_ex, G_star, G_pure]
theorem s_extend_Extend_End [i : SelOb L ExtR b x C] (hK : G w0 L (K (i64 x.pat.fin))) : G w0 L (CP Tryz.prog Fn.extend_Extend_End [ptr b 0] K) := by
 refine i.ro (fun M hK => ?_) hK
 rw [ExtR_open] at *
 intro v hv
 refine C_extend_Extend_End ?_
 unfold S_extend_Extend_End
 refine gr ?_
 refine s_patience_Patience_End (p := x.pat) (rest := [v, .bool x.loaded, i64 x.pos, u64 x.stamp]) ?_
 exact hK v hv
theorem s_extend_Extend_By [i : SelOb L ExtR b x C] (hK : G w0 L (K (i64 x.pat.by_))) : G w0 L (CP Tryz.prog Fn.extend_Extend_By [ptr b 0] K) := by
 refine i.ro (fun M hK => ?_) hK
 rw [ExtR_open] at *
 intro v hv
 refine C_extend_Extend_By ?_
 unfold S_extend_Extend_By
 refine gr ?_
 refine s_patience_Patience_By (p := x.pat) (rest := [v, .bool x.loaded, i64 x.pos, u64 x.stamp]) ?_
 exact hK v hv
theorem s_extend_Extend_Stamp [i : SelOb L ExtR b x C] (hK : G w0 L (K (u64 (if x.pat.fin = 2 then x.stamp else 0)))) : G w0 L (CP Tryz.prog Fn.extend_Extend_Stamp [ptr b 0] K) := by
 refine i.ro (fun M hK => ?_) hK
 refine C_extend_Extend_Stamp ?_
 unfold S_extend_Extend_Stamp
 refine s_extend_Extend_End (x := x) ?_
 by_cases h : x.pat.fin = 2
 ·rw [if_pos h, ExtR_open] at hK
  refine grf h ?_
  rw [ExtR_open]
  intro v hv
  refine gr ?_
  exact (hK v hv).sub
 ·rw [if_neg h] at hK
  refine grf h ?_
  exact hK.sub
theorem s_extend_Extend_Next (ho : ExtOk x) [i : SelOb L ExtR b x C] (hK : G w0 L (K (.tuple #[.agg (TOp.cells (extNext x).1).toArray, .bool (extNext x).2]))) : G w0 L (CP Tryz.prog Fn.extend_Extend_Next [ptr b 0] K) := by
 refine i.ro (fun M hK => ?_) hK
 rw [ExtR_open] at *
 intro v hv
 have hK := hK v hv
 refine C_extend_Extend_Next ?_
 unfold S_extend_Extend_Next
 try simp (maxSteps := 2000000) only [fuse_and, fuse_or, fuse_step, fuse_pair, fuse_in, andP_true]
 refine G.new fun q => ?_
 refine gr ?_
 refine s_patience_Patience_End (p := x.pat) (rest := [v, .bool x.loaded, i64 x.pos, u64 x.stamp]) ?_
 refine gr ?_
 unfold extNext at hK
 by_cases h : x.pat.fin = 0
 ·rw [if_pos h] at hK
  refine grf h ?_
  by_cases h2 : x.loaded = true
  ·rw [if_pos h2] at hK
   have hp := ho h h2
   have e := elem_of hp
   have hg : x.seen.getD x.pos ⟨0, 0⟩ = x.seen[x.pos] := by simp [hp]
   rw [hg] at hK
   simp only [h2] at hK
   refine grf h2 ?_
   refine G.drew ?_
   refine gr ?_
   exact hK.sub
  ·have h3 : x.loaded = false := by simpa using h2
   rw [if_neg h2] at hK
   simp only [h3] at hK
   refine grf h3 ?_
   exact hK.sub
 ·rw [if_neg h] at hK
  refine grf h ?_
  exact hK.sub
theorem s_extend_New {me sp : Int} {u : Value} {xs : List TSeen} {sz : Nat} [r : Rd w0 L u tSeenE sz xs] (hl : xs.length ≤ 1000000) (hK : ∀ b, G w0 (ob ExtR b (extNew me sp xs) :: L) (K (ptr b 0))) : G w0 L (CP Tryz.prog Fn.extend_New [i64 me, i64 sp, u] K) := by
 refine C_extend_New ?_
 unfold S_extend_New
 refine s_patience_New ?_
 refine s_slices_Clone_api_Seen_api_Seen (xs := xs) hl fun v hv => ?_
 refine gr ?_
 refine G.box fun b => ?_
 refine gr ?_
 have h := hK b
 rw [ExtR_open] at h
 exact h v hv
theorem ext_tail {v : Value} {q : Nat} {y : List Value} (hv : Cells v [v]) (hK : G w0 (ob ExtR b (extDone x) :: M) (K (.tuple #[]))) (hf : x.seen.length < 4611686018427387904) :
  G w0 (own q y :: own b (x.pat.cells [v, .bool x.loaded, i64 x.pos, u64 x.stamp]) :: sl tSeenE v x.seen :: M) (fun w =>
   load1W (ptr b 7) (fun x12 w => load1W (ptr b 5) (fun x15 w => lenW x15 (fun x16 w => binIntW .eql x12 x16 (fun x17 w =>
    joinW0 (fun w => K (.tuple #[]) w) (fun j2 w => condP x17 (fun w => CP Tryz.prog Fn.patience_Patience_Stop [ptr b 0, .int .i64 2, .int .i64 0, .int .i64 (-1)] (fun x20 w => j2 w) w) (fun w => j2 w) w) w) w) w) w) w) := by
 refine gr ?_
 refine G.joini0 ?_
 unfold extDone at hK
 refine G.cond (fun h => ?_) (fun h => ?_)
 ·rw [if_pos (by simp at h; omega), ExtR_open] at hK
  refine s_patience_Patience_Stop (p := x.pat) (rest := [v, .bool x.loaded, i64 x.pos, u64 x.stamp]) ?_
  refine gr ?_
  exact (hK v hv).sub
 ·rw [if_neg (by simp at h; omega), ExtR_open] at hK
  exact (hK v hv).sub
theorem s_extend_Extend_Tell {a : TAns} (ho : ExtOk x) (hf : x.seen.length ≤ 1000000) [i : SelOb L ExtR b x C] (hK : G w0 (C (ob ExtR b (extTell x a))) (K (.tuple #[]))) : G w0 L (CP Tryz.prog Fn.extend_Extend_Tell [ptr b 0, .agg (TAns.cells a).toArray] K) := by
 refine i.use (fun M hK => ?_) hK
 refine C_extend_Extend_Tell ?_
 unfold S_extend_Extend_Tell
 try simp (maxSteps := 2000000) only [fuse_and, fuse_or, fuse_step, fuse_pair, fuse_in, andP_true]
 refine G.box fun q => ?_
 rw [G_swap, ExtR_open]
 intro v hv
 refine G.drew ?_
 refine gr ?_
 refine s_patience_Patience_Stopped (p := x.pat) (a := a) (rest := [v, .bool x.loaded, i64 x.pos, u64 x.stamp]) ?_
 unfold extTell at hK
 by_cases hs : (x.pat.stopped a.err).fin = 0
 ·have hp : x.pat.stopped a.err = x.pat := by
   unfold Pat.stopped at hs ⊢; split
   ·rename_i h; rw [if_pos h] at hs; simp [Pat.stop] at hs
   ·rfl
  rw [if_pos hs] at hK
  rw [hp] at hs
  rw [hp]
  refine grf hs ?_
  cases hl : x.loaded
  ·rw [if_pos hl] at hK
   refine grf hl ?_
   refine G.joini0 ?_
   refine G.drew ?_
   refine gr ?_
   refine G.drew ?_
   rw [G_rot3]
   exact ext_tail (x := { x with loaded := true, stamp := a.word }) hv hK (by simp only; omega)
  ·rw [if_neg (by rw [hl]; decide)] at hK
   have hp2 := ho hs hl
   have e := elem_of hp2
   have hg : x.seen.getD x.pos ⟨0, 0⟩ = x.seen[x.pos] := by simp [hp2]
   refine grf hl ?_
   refine G.joini0 ?_
   try simp (maxSteps := 2000000) only [↓RG, RP, RB, BEq.rfl, Int.reduceEq, Int.reduceLT, Int.reduceLE, Nat.reduceEqDiff, Nat.reduceAdd]
   cases hh : a.lock.held
   ·rw [if_neg (by rw [hh]; decide), hg] at hK
    refine grf hh ?_
    refine G.drew ?_
    refine gr ?_
    by_cases hv2 : a.lock.version = x.seen[x.pos].version
    ·rw [if_pos hv2] at hK
     refine grf hv2 ?_
     rw [wsucc (by omega)]
     refine G.drew ?_
     rw [G_rot3]
     have hK' : G w0 (ob ExtR b (extDone { x with loaded := true, pos := x.pos + 1 }) :: M) (K (.tuple #[])) := by
      have : ({ x with loaded := true, pos := x.pos + 1 } : ExtS) = { x with pos := x.pos + 1 } := by rw [← hl]
      rw [this]; exact hK
     exact ext_tail (x := { x with loaded := true, pos := x.pos + 1 }) hv hK' (by simp only; omega)
    ·rw [if_neg hv2, ExtR_open] at hK
     refine grf hv2 ?_
     refine s_patience_Patience_Stop (p := x.pat) (rest := [v, .bool true, i64 x.pos, u64 x.stamp]) ?_
     have hK := hK v hv
     simp only [hl] at hK
     refine gr ?_
     exact hK.sub
   ·rw [if_pos hh] at hK
    refine grf hh ?_
    refine G.drew ?_
    refine grf hh ?_
    refine s_patience_Patience_Waits (p := x.pat) (x := ⟨a.lock.version, true, a.lock.owner⟩) (rest := [v, .bool true, i64 x.pos, u64 x.stamp]) ?_
    refine gr ?_
    refine G.joini0 ?_
    cases hw : (x.pat.waits a.lock.owner).2
    ·rw [if_neg (by rw [hw]; decide), ExtR_open] at hK
     have hK := hK v hv
     simp only [hl] at hK
     refine grf hw ?_
     refine G.drew ?_
     try simp (maxSteps := 2000000) only [↓RG, RP, RB, BEq.rfl, Int.reduceEq, Int.reduceLT, Int.reduceLE, Nat.reduceEqDiff, Nat.reduceAdd]
     refine s_patience_Patience_Stop (p := (x.pat.waits a.lock.owner).1) (rest := [v, .bool true, i64 x.pos, u64 x.stamp]) ?_
     refine gr ?_
     exact hK.sub
    ·rw [if_pos hw, ExtR_open] at hK
     have hK := hK v hv
     simp only [hl] at hK
     refine grf hw ?_
     exact hK.sub
 ·rw [if_neg hs, ExtR_open] at hK
  refine grf hs ?_
  exact (hK v hv).sub
end
end Go.Proofs.YtoealglbimbbmaaGreatDoor.S
