/-
  CHAPTER 24: an extend of a read set (package extend): its model, its contracts.
-/
import Derived.Test.YtoealglbimbbmaaGreatDoorFetch
namespace Go.Proofs.YtoealglbimbbmaaGreatDoor.S
open Go Go.Proofs
set_option linter.unusedVariables false
set_option linter.unusedSimpArgs false

structure ExtS where
  pat : Pat
  seen : List TSeen
  loaded : Bool
  pos : Nat
  stamp : Int

def extNew (me sp : Int) (seen : List TSeen) : ExtS := ⟨newPat me sp, seen, false, 0, 0⟩
/-- while it goes on there is one to look at -/
def ExtOk (x : ExtS) : Prop := x.pat.fin = 0 → x.loaded = true → x.pos < x.seen.length
def extNext (x : ExtS) : TOp × Bool :=
  if x.pat.fin = 0 then (if x.loaded = true then (⟨3, (x.seen.getD x.pos ⟨0, 0⟩).stripe, 0, 0, zeroLock, zeroLock⟩, true) else (⟨6, 0, 0, 0, zeroLock, zeroLock⟩, true)) else (zeroOp, false)
def extDone (x : ExtS) : ExtS := if x.pos = x.seen.length then { x with pat := x.pat.stop 2 0 (-1) } else x
def extTell (x : ExtS) (a : TAns) : ExtS :=
  if (x.pat.stopped a.err).fin = 0 then
    (if x.loaded = false then extDone { x with loaded := true, stamp := a.word }
     else if a.lock.held = true then (if (x.pat.waits a.lock.owner).2 = true then { x with pat := (x.pat.waits a.lock.owner).1 } else { x with pat := (x.pat.waits a.lock.owner).1.stop 5 0 a.lock.owner })
     else if a.lock.version = (x.seen.getD x.pos ⟨0, 0⟩).version then extDone { x with pos := x.pos + 1 }
     else { x with pat := x.pat.stop 5 0 (-1) })
  else { x with pat := x.pat.stopped a.err }

def ExtR (b : Nat) (x : ExtS) : Asn := exA fun v => star (pureA (Cells v [v])) (star (own b (x.pat.cells [v, .bool x.loaded, i64 x.pos, u64 x.stamp])) (sl tSeenE v x.seen))

section
variable {w0 : Base} {L M : List Asn} {K : KV} {F : World → Prop} {C : Asn → List Asn} {b : Nat} {x : ExtS}

theorem ExtR_open : G w0 (ob ExtR b x :: M) F = ∀ v, Cells v [v] → G w0 (own b (x.pat.cells [v, .bool x.loaded, i64 x.pos, u64 x.stamp]) :: sl tSeenE v x.seen :: M) F := by
  rw [ob_eq, ExtR]
  simp only [G_ex, G_star, G_pure]

theorem s_extend_Extend_End [i : SelOb L ExtR b x C] (hK : G w0 L (K (i64 x.pat.fin))) : G w0 L (CP Tryz.prog Fn.extend_Extend_End [ptr b 0] K) := by
  refine i.ro (fun M hK => ?_) hK
  rw [ExtR_open] at *
  intro v hv
  refine C_extend_Extend_End ?_
  unfold S_extend_Extend_End
  try simp (maxSteps := 2000000) only [↓RG, RP, RB, BEq.rfl, Int.reduceEq, Int.reduceLT, Int.reduceLE, Nat.reduceEqDiff]
  refine s_patience_Patience_End (p := x.pat) (rest := [v, .bool x.loaded, i64 x.pos, u64 x.stamp]) ?_
  exact hK v hv

theorem s_extend_Extend_By [i : SelOb L ExtR b x C] (hK : G w0 L (K (i64 x.pat.by_))) : G w0 L (CP Tryz.prog Fn.extend_Extend_By [ptr b 0] K) := by
  refine i.ro (fun M hK => ?_) hK
  rw [ExtR_open] at *
  intro v hv
  refine C_extend_Extend_By ?_
  unfold S_extend_Extend_By
  try simp (maxSteps := 2000000) only [↓RG, RP, RB, BEq.rfl, Int.reduceEq, Int.reduceLT, Int.reduceLE, Nat.reduceEqDiff]
  refine s_patience_Patience_By (p := x.pat) (rest := [v, .bool x.loaded, i64 x.pos, u64 x.stamp]) ?_
  exact hK v hv

theorem s_extend_Extend_Stamp [i : SelOb L ExtR b x C] (hK : G w0 L (K (u64 (if x.pat.fin = 2 then x.stamp else 0)))) : G w0 L (CP Tryz.prog Fn.extend_Extend_Stamp [ptr b 0] K) := by
  refine i.ro (fun M hK => ?_) hK
  refine C_extend_Extend_Stamp ?_
  unfold S_extend_Extend_Stamp
  refine s_extend_Extend_End (x := x) ?_
  by_cases h : x.pat.fin = 2
  · rw [if_pos h, ExtR_open] at hK
    try simp (maxSteps := 2000000) only [↓RG, RP, RB, BEq.rfl, Int.reduceEq, Int.reduceLT, Int.reduceLE, Nat.reduceEqDiff, h]
    rw [ExtR_open]
    intro v hv
    try simp (maxSteps := 2000000) only [↓RG, RP, RB, BEq.rfl, Int.reduceEq, Int.reduceLT, Int.reduceLE, Nat.reduceEqDiff]
    exact (hK v hv).sub
  · rw [if_neg h] at hK
    try simp (maxSteps := 2000000) only [↓RG, RP, RB, BEq.rfl, Int.reduceEq, Int.reduceLT, Int.reduceLE, Nat.reduceEqDiff, h]
    exact hK.sub

theorem s_extend_Extend_Next (ho : ExtOk x) [i : SelOb L ExtR b x C] (hK : G w0 L (K (.tuple #[.agg (TOp.cells (extNext x).1).toArray, .bool (extNext x).2]))) : G w0 L (CP Tryz.prog Fn.extend_Extend_Next [ptr b 0] K) := by
  refine i.ro (fun M hK => ?_) hK
  rw [ExtR_open] at *
  intro v hv
  have hK := hK v hv
  refine C_extend_Extend_Next ?_
  unfold S_extend_Extend_Next
  try simp (maxSteps := 2000000) only [fuse_and, fuse_or, fuse_step, fuse_pair, fuse_in, andP_true]
  refine G.new fun q => ?_
  try simp (maxSteps := 2000000) only [↓RG, RP, RB, BEq.rfl, Int.reduceEq, Int.reduceLT, Int.reduceLE, Nat.reduceEqDiff]
  refine s_patience_Patience_End (p := x.pat) (rest := [v, .bool x.loaded, i64 x.pos, u64 x.stamp]) ?_
  try simp (maxSteps := 2000000) only [↓RG, RP, RB, BEq.rfl, Int.reduceEq, Int.reduceLT, Int.reduceLE, Nat.reduceEqDiff]
  unfold extNext at hK
  by_cases h : x.pat.fin = 0
  · rw [if_pos h] at hK
    try simp (maxSteps := 2000000) only [↓RG, RP, RB, BEq.rfl, Int.reduceEq, Int.reduceLT, Int.reduceLE, Nat.reduceEqDiff, h]
    by_cases h2 : x.loaded = true
    · rw [if_pos h2] at hK
      have hp := ho h h2
      have e := elem_of hp
      have hg : x.seen.getD x.pos ⟨0, 0⟩ = x.seen[x.pos] := by simp [hp]
      rw [hg] at hK
      simp only [h2] at hK
      try simp (maxSteps := 2000000) only [↓RG, RP, RB, BEq.rfl, Int.reduceEq, Int.reduceLT, Int.reduceLE, Nat.reduceEqDiff, h2]
      refine G.drew ?_
      try simp (maxSteps := 2000000) only [↓RG, RP, RB, BEq.rfl, Int.reduceEq, Int.reduceLT, Int.reduceLE, Nat.reduceEqDiff]
      exact hK.sub
    · have h3 : x.loaded = false := by simpa using h2
      rw [if_neg h2] at hK
      simp only [h3] at hK
      try simp (maxSteps := 2000000) only [↓RG, RP, RB, BEq.rfl, Int.reduceEq, Int.reduceLT, Int.reduceLE, Nat.reduceEqDiff, h3]
      exact hK.sub
  · rw [if_neg h] at hK
    try simp (maxSteps := 2000000) only [↓RG, RP, RB, BEq.rfl, Int.reduceEq, Int.reduceLT, Int.reduceLE, Nat.reduceEqDiff, h]
    exact hK.sub

theorem s_extend_New {me sp : Int} {u : Value} {xs : List TSeen} {sz : Nat} [r : Rd w0 L u tSeenE sz xs] (hl : xs.length ≤ 1000000) (hK : ∀ b, G w0 (ob ExtR b (extNew me sp xs) :: L) (K (ptr b 0))) : G w0 L (CP Tryz.prog Fn.extend_New [i64 me, i64 sp, u] K) := by
  refine C_extend_New ?_
  unfold S_extend_New
  refine s_patience_New ?_
  refine s_slices_Clone_api_Seen_api_Seen (xs := xs) hl fun v hv => ?_
  try simp (maxSteps := 2000000) only [↓RG, RP, RB, BEq.rfl, Int.reduceEq, Int.reduceLT, Int.reduceLE, Nat.reduceEqDiff]
  refine G.box fun b => ?_
  try simp (maxSteps := 2000000) only [↓RG, RP, RB, BEq.rfl, Int.reduceEq, Int.reduceLT, Int.reduceLE, Nat.reduceEqDiff]
  have h := hK b
  rw [ExtR_open] at h
  exact h v hv

/-- what stands behind a step: has it seen all? -/
theorem ext_tail {v : Value} {q : Nat} {y : List Value} (hv : Cells v [v]) (hK : G w0 (ob ExtR b (extDone x) :: M) (K (.tuple #[]))) (hf : x.seen.length < 4611686018427387904) :
    G w0 (own q y :: own b (x.pat.cells [v, .bool x.loaded, i64 x.pos, u64 x.stamp]) :: sl tSeenE v x.seen :: M) (fun w =>
      load1W (ptr b 7) (fun x12 w => load1W (ptr b 5) (fun x15 w => lenW x15 (fun x16 w => binIntW .eql x12 x16 (fun x17 w =>
        joinW0 (fun w => K (.tuple #[]) w) (fun j2 w => condP x17 (fun w => CP Tryz.prog Fn.patience_Patience_Stop [ptr b 0, .int .i64 2, .int .i64 0, .int .i64 (-1)] (fun x20 w => j2 w) w) (fun w => j2 w) w) w) w) w) w) w) := by
  try simp (maxSteps := 2000000) only [↓RG, RP, RB, BEq.rfl, Int.reduceEq, Int.reduceLT, Int.reduceLE, Nat.reduceEqDiff]
  refine G.joini0 ?_
  unfold extDone at hK
  refine G.cond (fun h => ?_) (fun h => ?_)
  · rw [if_pos (by simp at h; omega), ExtR_open] at hK
    refine s_patience_Patience_Stop (p := x.pat) (rest := [v, .bool x.loaded, i64 x.pos, u64 x.stamp]) ?_
    try simp (maxSteps := 2000000) only [↓RG, RP, RB, BEq.rfl, Int.reduceEq, Int.reduceLT, Int.reduceLE, Nat.reduceEqDiff]
    exact (hK v hv).sub
  · rw [if_neg (by simp at h; omega), ExtR_open] at hK
    exact (hK v hv).sub

theorem s_extend_Extend_Tell {a : TAns} (ho : ExtOk x) (hf : x.seen.length ≤ 1000000) [i : SelOb L ExtR b x C] (hK : G w0 (C (ob ExtR b (extTell x a))) (K (.tuple #[]))) : G w0 L (CP Tryz.prog Fn.extend_Extend_Tell [ptr b 0, .agg (TAns.cells a).toArray] K) := by
  refine i.use (fun M hK => ?_) hK
  refine C_extend_Extend_Tell ?_
  unfold S_extend_Extend_Tell
  try simp (maxSteps := 2000000) only [fuse_and, fuse_or, fuse_step, fuse_pair, fuse_in, andP_true]
  refine G.box fun q => ?_
  rw [G_swap, ExtR_open]
  intro v hv
  refine G.drew ?_
  try simp (maxSteps := 2000000) only [↓RG, RP, RB, BEq.rfl, Int.reduceEq, Int.reduceLT, Int.reduceLE, Nat.reduceEqDiff]
  refine s_patience_Patience_Stopped (p := x.pat) (a := a) (rest := [v, .bool x.loaded, i64 x.pos, u64 x.stamp]) ?_
  unfold extTell at hK
  by_cases hs : (x.pat.stopped a.err).fin = 0
  · have hp : x.pat.stopped a.err = x.pat := by
      unfold Pat.stopped at hs ⊢; split
      · rename_i h; rw [if_pos h] at hs; simp [Pat.stop] at hs
      · rfl
    rw [if_pos hs] at hK
    rw [hp] at hs
    rw [hp]
    try simp (maxSteps := 2000000) only [↓RG, RP, RB, BEq.rfl, Int.reduceEq, Int.reduceLT, Int.reduceLE, Nat.reduceEqDiff, hs]
    cases hl : x.loaded
    · rw [if_pos hl] at hK
      try simp (maxSteps := 2000000) only [↓RG, RP, RB, BEq.rfl, Int.reduceEq, Int.reduceLT, Int.reduceLE, Nat.reduceEqDiff, hl]
      refine G.joini0 ?_
      refine G.drew ?_
      try simp (maxSteps := 2000000) only [↓RG, RP, RB, BEq.rfl, Int.reduceEq, Int.reduceLT, Int.reduceLE, Nat.reduceEqDiff]
      refine G.drew ?_
      rw [G_rot3]
      exact ext_tail (x := { x with loaded := true, stamp := a.word }) hv hK (by simp only; omega)
    · rw [if_neg (by rw [hl]; decide)] at hK
      have hp2 := ho hs hl
      have e := elem_of hp2
      have hg : x.seen.getD x.pos ⟨0, 0⟩ = x.seen[x.pos] := by simp [hp2]
      try simp (maxSteps := 2000000) only [↓RG, RP, RB, BEq.rfl, Int.reduceEq, Int.reduceLT, Int.reduceLE, Nat.reduceEqDiff, hl]
      refine G.joini0 ?_
      try simp (maxSteps := 2000000) only [↓RG, RP, RB, BEq.rfl, Int.reduceEq, Int.reduceLT, Int.reduceLE, Nat.reduceEqDiff, Nat.reduceAdd]
      cases hh : a.lock.held
      · rw [if_neg (by rw [hh]; decide), hg] at hK
        try simp (maxSteps := 2000000) only [↓RG, RP, RB, BEq.rfl, Int.reduceEq, Int.reduceLT, Int.reduceLE, Nat.reduceEqDiff, hh]
        refine G.drew ?_
        try simp (maxSteps := 2000000) only [↓RG, RP, RB, BEq.rfl, Int.reduceEq, Int.reduceLT, Int.reduceLE, Nat.reduceEqDiff]
        by_cases hv2 : a.lock.version = x.seen[x.pos].version
        · rw [if_pos hv2] at hK
          try simp (maxSteps := 2000000) only [↓RG, RP, RB, BEq.rfl, Int.reduceEq, Int.reduceLT, Int.reduceLE, Nat.reduceEqDiff, hv2]
          rw [wsucc (by omega)]
          refine G.drew ?_
          rw [G_rot3]
          have hK' : G w0 (ob ExtR b (extDone { x with loaded := true, pos := x.pos + 1 }) :: M) (K (.tuple #[])) := by
            have : ({ x with loaded := true, pos := x.pos + 1 } : ExtS) = { x with pos := x.pos + 1 } := by rw [← hl]
            rw [this]; exact hK
          exact ext_tail (x := { x with loaded := true, pos := x.pos + 1 }) hv hK' (by simp only; omega)
        · rw [if_neg hv2, ExtR_open] at hK
          try simp (maxSteps := 2000000) only [↓RG, RP, RB, BEq.rfl, Int.reduceEq, Int.reduceLT, Int.reduceLE, Nat.reduceEqDiff, hv2]
          refine s_patience_Patience_Stop (p := x.pat) (rest := [v, .bool true, i64 x.pos, u64 x.stamp]) ?_
          have hK := hK v hv
          simp only [hl] at hK
          try simp (maxSteps := 2000000) only [↓RG, RP, RB, BEq.rfl, Int.reduceEq, Int.reduceLT, Int.reduceLE, Nat.reduceEqDiff]
          exact hK.sub
      · rw [if_pos hh] at hK
        try simp (maxSteps := 2000000) only [↓RG, RP, RB, BEq.rfl, Int.reduceEq, Int.reduceLT, Int.reduceLE, Nat.reduceEqDiff, hh]
        refine G.drew ?_
        try simp (maxSteps := 2000000) only [↓RG, RP, RB, BEq.rfl, Int.reduceEq, Int.reduceLT, Int.reduceLE, Nat.reduceEqDiff, hh]
        refine s_patience_Patience_Waits (p := x.pat) (x := ⟨a.lock.version, true, a.lock.owner⟩) (rest := [v, .bool true, i64 x.pos, u64 x.stamp]) ?_
        try simp (maxSteps := 2000000) only [↓RG, RP, RB, BEq.rfl, Int.reduceEq, Int.reduceLT, Int.reduceLE, Nat.reduceEqDiff]
        refine G.joini0 ?_
        cases hw : (x.pat.waits a.lock.owner).2
        · rw [if_neg (by rw [hw]; decide), ExtR_open] at hK
          have hK := hK v hv
          simp only [hl] at hK
          try simp (maxSteps := 2000000) only [↓RG, RP, RB, BEq.rfl, Int.reduceEq, Int.reduceLT, Int.reduceLE, Nat.reduceEqDiff, hw]
          refine G.drew ?_
          try simp (maxSteps := 2000000) only [↓RG, RP, RB, BEq.rfl, Int.reduceEq, Int.reduceLT, Int.reduceLE, Nat.reduceEqDiff, Nat.reduceAdd]
          refine s_patience_Patience_Stop (p := (x.pat.waits a.lock.owner).1) (rest := [v, .bool true, i64 x.pos, u64 x.stamp]) ?_
          try simp (maxSteps := 2000000) only [↓RG, RP, RB, BEq.rfl, Int.reduceEq, Int.reduceLT, Int.reduceLE, Nat.reduceEqDiff]
          exact hK.sub
        · rw [if_pos hw, ExtR_open] at hK
          have hK := hK v hv
          simp only [hl] at hK
          try simp (maxSteps := 2000000) only [↓RG, RP, RB, BEq.rfl, Int.reduceEq, Int.reduceLT, Int.reduceLE, Nat.reduceEqDiff, hw]
          exact hK.sub
  · rw [if_neg hs, ExtR_open] at hK
    try simp (maxSteps := 2000000) only [↓RG, RP, RB, BEq.rfl, Int.reduceEq, Int.reduceLT, Int.reduceLE, Nat.reduceEqDiff, hs]
    exact (hK v hv).sub

end
end Go.Proofs.YtoealglbimbbmaaGreatDoor.S
