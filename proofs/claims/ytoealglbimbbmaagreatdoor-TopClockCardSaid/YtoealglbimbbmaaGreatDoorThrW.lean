/-
  A THREAD OF JOBS (package thread): the next job; pauses; what is told of an attempt.
-/
import Derived.Test.YtoealglbimbbmaaGreatDoorThr
namespace Go.Proofs.YtoealglbimbbmaaGreatDoor.S
open Go Go.Proofs
set_option linter.unusedVariables false
set_option linter.unusedSimpArgs false

/-- the longest pause behind so many conflicts -/
def mostN : Nat → Int
  | 0 => 1
  | n + 1 => if 8 < 2 * mostN n then 8 else 2 * mostN n
theorem mostN_le : ∀ n : Nat, 1 ≤ mostN n ∧ mostN n ≤ 8
  | 0 => by simp [mostN]
  | n + 1 => by have := mostN_le n; unfold mostN; split <;> omega
def fewer (c : Int) : Int := if 8 < c then 8 else c
abbrev pauseOf (conf draw : Int) : Int := draw.tmod (mostN (fewer conf).toNat + 1)
abbrev thrPause (x : ThrS) (draw : Int) : ThrS := if pauseOf x.conf draw = 0 then thrAgain { x with pauses := 0, state := 3 } else { x with pauses := pauseOf x.conf draw, state := 3 }
abbrev thrRest (x : ThrS) : ThrS := if x.state = 3 then (if x.pauses = 1 then thrAgain { x with pauses := 0 } else { x with pauses := x.pauses - 1 }) else x
abbrev thrFollow (x : ThrS) : ThrS := thrAgain { x with job := x.job + 1, tries := 0, conf := 0 }
abbrev thrYield (x : ThrS) (a : TAns) (draw : Int) : ThrS := if a.err = 0 ∧ a.word ≠ 0 ∧ (x.yld = false ∨ a.word = x.since) then { x with yld := true, since := a.word } else thrPause x draw

section
variable {w0 : Base} {L M : List Asn} {K : KV} {F : World → Prop} {C : Asn → List Asn} {b lp p : Nat} {x : ThrS} {v vj vn vp vr : Value} {a : AttS} {draw : Int}

theorem s_thread_following (ho : JobsOk { x with job := x.job + 1 }) (hl : x.jobs.length ≤ 1000000) [i : SelOb L ThrR b x C] (hK : G w0 (C (ob ThrR b (thrFollow x))) (K (.tuple #[]))) : G w0 L (CP Tryz.prog Fn.thread_Thread_following [ptr b 0] K) := by
  refine i.use (fun M hK => ?_) hK
  refine C_thread_Thread_following ?_
  unfold S_thread_Thread_following
  have hb := ho.hi
  have hb2 := ho.lo
  simp only at hb hb2
  rw [ThrR_open]
  intro vj vn vp vr lp
  repeat' (first | (with_reducible refine G.joini0 ?_) | (with_reducible refine G.joini1 ?_) | (with_reducible refine G.drew ?_) | (simp (maxSteps := 2000000) only [↓RG, RP, RB, BEq.rfl, Int.reduceEq, Int.reduceLT, Int.reduceLE, Nat.reduceEqDiff]))
  rw [wi64 (n := x.job + 1) (by omega) (by omega)]
  refine ThrR_close b { x with job := x.job + 1, tries := 0, conf := 0 } vj vn vp vr lp ?_
  refine s_thread_again (x := { x with job := x.job + 1, tries := 0, conf := 0 }) ⟨ho.lo, ho.hi, ho.progs⟩ ?_
  repeat' (first | (with_reducible refine G.joini0 ?_) | (with_reducible refine G.joini1 ?_) | (with_reducible refine G.drew ?_) | (simp (maxSteps := 2000000) only [↓RG, RP, RB, BEq.rfl, Int.reduceEq, Int.reduceLT, Int.reduceLE, Nat.reduceEqDiff]))
  exact hK

theorem s_thread_pause (ho : JobsOk x) (hd : 0 ≤ draw) (hd2 : draw ≤ 255) [i : SelOb L ThrR b x C] (hK : G w0 (C (ob ThrR b (thrPause x draw))) (K (.tuple #[]))) : G w0 L (CP Tryz.prog Fn.thread_Thread_pause [ptr b 0, .int .u8 draw] K) := by
  refine i.use (fun M hK => ?_) hK
  refine C_thread_Thread_pause ?_
  unfold S_thread_Thread_pause
  rw [ThrR_open]
  intro vj vn vp vr lp
  have hf : (if (8 : Int) < x.conf then 8 else x.conf) = fewer x.conf := rfl
  have hf8 : fewer x.conf ≤ 8 := by unfold fewer; split <;> omega
  try simp (maxSteps := 2000000) only [↓RG, RP, RB, BEq.rfl, Int.reduceEq, Int.reduceLT, Int.reduceLE, Nat.reduceEqDiff, hf]
  refine G.loop2 (fun k : Nat => i64 (mostN k)) (fun k : Nat => i64 k) (fun k => own b (x.cells vj vn vp vr lp) :: ob JobsR vj x.jobs :: ob NowR vn x.now :: ob PastR vp x.past :: sl tResE vr x.res :: ob (BoxR tRestE) lp [] :: M) (fun k => k ≤ (fewer x.conf).toNat) (fun k => (fewer x.conf).toNat - k) 0 rfl rfl rfl (by simp) ?_
  intro k hk J hJ
  have hm := mostN_le k
  try simp (maxSteps := 2000000) only [↓RG, RP, RB, BEq.rfl, Int.reduceEq, Int.reduceLT, Int.reduceLE, Nat.reduceEqDiff]
  refine G.cond (fun h => ?_) (fun h => ?_)
  · have hk2 : k < (fewer x.conf).toNat := by simp at h; omega
    have h1 := hJ (k + 1) hk2 (by omega)
    try simp (maxSteps := 2000000) only [↓RG, RP, RB, BEq.rfl, Int.reduceEq, Int.reduceLT, Int.reduceLE, Nat.reduceEqDiff]
    rw [wi64 (n := 2 * mostN k) (by omega) (by omega), wsucc (by omega)]
    exact h1
  · have hk2 : k = (fewer x.conf).toNat := by simp at h; omega
    have ne : NeZ (mostN k + 1) := ⟨by omega⟩
    have e1 : IntKind.wrap .i64 (mostN k + 1) = mostN k + 1 := wi64 (by omega) (by omega)
    unfold thrPause at hK
    have hpo : draw.tmod (mostN k + 1) = pauseOf x.conf draw := by rw [hk2]
    have ed : IntKind.wrap .i64 draw = draw := wi64 (by omega) (by omega)
    by_cases h0 : pauseOf x.conf draw = 0
    · rw [if_pos h0] at hK
      rw [h0] at hpo
      repeat' (first | (with_reducible refine G.joini0 ?_) | (with_reducible refine G.joini1 ?_) | (with_reducible refine G.drew ?_) | (simp (maxSteps := 2000000) only [↓RG, RP, RB, BEq.rfl, Int.reduceEq, Int.reduceLT, Int.reduceLE, Nat.reduceEqDiff, ed, e1, hpo]))
      refine ThrR_close b { x with pauses := 0, state := 3 } vj vn vp vr lp ?_
      refine s_thread_again (x := { x with pauses := 0, state := 3 }) ⟨ho.lo, ho.hi, ho.progs⟩ ?_
      repeat' (first | (with_reducible refine G.joini0 ?_) | (with_reducible refine G.joini1 ?_) | (with_reducible refine G.drew ?_) | (simp (maxSteps := 2000000) only [↓RG, RP, RB, BEq.rfl, Int.reduceEq, Int.reduceLT, Int.reduceLE, Nat.reduceEqDiff]))
      exact hK
    · rw [if_neg h0] at hK
      repeat' (first | (with_reducible refine G.joini0 ?_) | (with_reducible refine G.joini1 ?_) | (with_reducible refine G.drew ?_) | (simp (maxSteps := 2000000) only [↓RG, RP, RB, BEq.rfl, Int.reduceEq, Int.reduceLT, Int.reduceLE, Nat.reduceEqDiff, ed, e1, hpo, h0]))
      refine ThrR_close b { x with pauses := pauseOf x.conf draw, state := 3 } vj vn vp vr lp ?_
      exact hK

theorem s_thread_Pause (ho : JobsOk x) (hp : x.state = 3 → 1 ≤ x.pauses ∧ x.pauses ≤ 100) [i : SelOb L ThrR b x C] (hK : G w0 (C (ob ThrR b (thrRest x))) (K (.tuple #[]))) : G w0 L (CP Tryz.prog Fn.thread_Thread_Pause [ptr b 0] K) := by
  refine i.use (fun M hK => ?_) hK
  refine C_thread_Thread_Pause ?_
  unfold S_thread_Thread_Pause
  rw [ThrR_open]
  intro vj vn vp vr lp
  unfold thrRest at hK
  by_cases h3 : x.state = 3
  · rw [if_pos h3] at hK
    have hp := hp h3
    have e : IntKind.wrap .i64 (x.pauses - 1) = x.pauses - 1 := wi64 (by omega) (by omega)
    by_cases h1 : x.pauses = 1
    · rw [if_pos h1] at hK
      have e0 : (x.pauses - 1 = 0) = True := eq_true (by omega)
      repeat' (first | (with_reducible refine G.joini0 ?_) | (with_reducible refine G.joini1 ?_) | (with_reducible refine G.drew ?_) | (simp (maxSteps := 2000000) only [↓RG, RP, RB, BEq.rfl, Int.reduceEq, Int.reduceLT, Int.reduceLE, Nat.reduceEqDiff, eq_true h3, e, e0]))
      refine ThrR_close b { x with pauses := x.pauses - 1 } vj vn vp vr lp ?_
      refine s_thread_again (x := { x with pauses := x.pauses - 1 }) ⟨ho.lo, ho.hi, ho.progs⟩ ?_
      rw [show x.pauses - 1 = 0 by omega]
      exact hK
    · rw [if_neg h1, ThrR_open] at hK
      have e0 : (x.pauses - 1 = 0) = False := eq_false (by omega)
      repeat' (first | (with_reducible refine G.joini0 ?_) | (with_reducible refine G.joini1 ?_) | (with_reducible refine G.drew ?_) | (simp (maxSteps := 2000000) only [↓RG, RP, RB, BEq.rfl, Int.reduceEq, Int.reduceLT, Int.reduceLE, Nat.reduceEqDiff, eq_true h3, e, e0]))
      exact hK vj vn vp vr lp
  · rw [if_neg h3, ThrR_open] at hK
    repeat' (first | (with_reducible refine G.joini0 ?_) | (with_reducible refine G.joini1 ?_) | (with_reducible refine G.drew ?_) | (simp (maxSteps := 2000000) only [↓RG, RP, RB, BEq.rfl, Int.reduceEq, Int.reduceLT, Int.reduceLE, Nat.reduceEqDiff, h3]))
    exact hK vj vn vp vr lp

theorem s_thread_yield {a : TAns} (ho : JobsOk x) (hd : 0 ≤ draw) (hd2 : draw ≤ 255) [i : SelOb L ThrR b x C] (hK : G w0 (C (ob ThrR b (thrYield x a draw))) (K (.tuple #[]))) : G w0 L (CP Tryz.prog Fn.thread_Thread_yield [ptr b 0, .agg (TAns.cells a).toArray, .int .u8 draw] K) := by
  refine i.use (fun M hK => ?_) hK
  refine C_thread_Thread_yield ?_
  unfold S_thread_Thread_yield
  refine G.box fun q => ?_
  rw [G_swap]
  refine G.drew ?_
  unfold thrYield at hK
  have hpause : G w0 (ob ThrR b (thrPause x draw) :: M) (K (.tuple #[])) → G w0 (ob ThrR b x :: own q (TAns.cells a) :: M) (CP Tryz.prog Fn.thread_Thread_pause [ptr b 0, .int .u8 draw] (fun x32 => K (.tuple #[]))) := fun h => s_thread_pause (x := x) ho hd hd2 h.sub
  try simp (maxSteps := 2000000) only [fuse_and, fuse_or, fuse_step, fuse_pair, fuse_in, andP_true]
  by_cases c1 : a.err = 0
  · by_cases c2 : a.word = 0
    · rw [if_neg (fun h => h.2.1 c2)] at hK
      repeat' (first | (with_reducible refine G.joini0 ?_) | (with_reducible refine G.joini1 ?_) | (with_reducible refine G.drew ?_) | (simp (maxSteps := 2000000) only [↓RG, RP, RB, BEq.rfl, Int.reduceEq, Int.reduceLT, Int.reduceLE, Nat.reduceEqDiff, eq_true c1, eq_true c2]))
      exact hpause hK
    · rw [ThrR_open]
      intro vj vn vp vr lp
      cases hy : x.yld
      · rw [if_pos ⟨c1, c2, .inl hy⟩, ThrR_open] at hK
        have hy2 : (!x.yld) = true := by rw [hy]; rfl
        repeat' (first | (with_reducible refine G.joini0 ?_) | (with_reducible refine G.joini1 ?_) | (with_reducible refine G.drew ?_) | (simp (maxSteps := 2000000) only [↓RG, RP, RB, BEq.rfl, Int.reduceEq, Int.reduceLT, Int.reduceLE, Nat.reduceEqDiff, eq_true c1, c2, hy2]))
        exact (hK vj vn vp vr lp).sub
      · have hy2 : (!x.yld) = false := by rw [hy]; rfl
        by_cases c3 : a.word = x.since
        · rw [if_pos ⟨c1, c2, .inr c3⟩, ThrR_open] at hK
          repeat' (first | (with_reducible refine G.joini0 ?_) | (with_reducible refine G.joini1 ?_) | (with_reducible refine G.drew ?_) | (simp (maxSteps := 2000000) only [↓RG, RP, RB, BEq.rfl, Int.reduceEq, Int.reduceLT, Int.reduceLE, Nat.reduceEqDiff, eq_true c1, c2, hy2, eq_true c3]))
          exact (hK vj vn vp vr lp).sub
        · rw [if_neg (fun h => by rcases h.2.2 with h | h; rw [hy] at h; cases h; exact c3 h)] at hK
          repeat' (first | (with_reducible refine G.joini0 ?_) | (with_reducible refine G.joini1 ?_) | (with_reducible refine G.drew ?_) | (simp (maxSteps := 2000000) only [↓RG, RP, RB, BEq.rfl, Int.reduceEq, Int.reduceLT, Int.reduceLE, Nat.reduceEqDiff, eq_true c1, c2, hy2, c3]))
          refine ThrR_close b x vj vn vp vr lp ?_
          exact hpause hK
  · rw [if_neg (fun h => c1 h.1)] at hK
    repeat' (first | (with_reducible refine G.joini0 ?_) | (with_reducible refine G.joini1 ?_) | (with_reducible refine G.drew ?_) | (simp (maxSteps := 2000000) only [↓RG, RP, RB, BEq.rfl, Int.reduceEq, Int.reduceLT, Int.reduceLE, Nat.reduceEqDiff, c1]))
    exact hpause hK

theorem s_thread_over (ho : JobsOk { x with job := x.job + 1 }) (hl : x.jobs.length ≤ 1000000) [i : SelOb L ThrR b x C] (hK : G w0 (C (ob ThrR b (thrFollow x))) (K (.tuple #[]))) : G w0 L (CP Tryz.prog Fn.thread_Thread_over [ptr b 0] K) := by
  refine i.use (fun M hK => ?_) hK
  refine C_thread_Thread_over ?_
  unfold S_thread_Thread_over
  rw [ThrR_open]
  intro vj vn vp vr lp
  repeat' (first | (with_reducible refine G.joini0 ?_) | (with_reducible refine G.joini1 ?_) | (with_reducible refine G.drew ?_) | (simp (maxSteps := 2000000) only [↓RG, RP, RB, BEq.rfl, Int.reduceEq, Int.reduceLT, Int.reduceLE, Nat.reduceEqDiff]))
  refine s_limbo_Limbo_Len (xs := []) ?_
  repeat' (first | (with_reducible refine G.joini0 ?_) | (with_reducible refine G.joini1 ?_) | (with_reducible refine G.drew ?_) | (simp (maxSteps := 2000000) only [↓RG, RP, RB, BEq.rfl, Int.reduceEq, Int.reduceLT, Int.reduceLE, Nat.reduceEqDiff, List.length_nil, Int.cast_ofNat_Int]))
  refine ThrR_close b x vj vn vp vr lp ?_
  refine s_thread_following (x := x) ho hl ?_
  repeat' (first | (with_reducible refine G.joini0 ?_) | (with_reducible refine G.joini1 ?_) | (with_reducible refine G.drew ?_) | (simp (maxSteps := 2000000) only [↓RG, RP, RB, BEq.rfl, Int.reduceEq, Int.reduceLT, Int.reduceLE, Nat.reduceEqDiff]))
  exact hK

theorem s_thread_State [i : SelOb L ThrR b x C] (hK : G w0 L (K (i64 x.state))) : G w0 L (CP Tryz.prog Fn.thread_Thread_State [ptr b 0] K) := by
  refine i.ro (fun M hK => ?_) hK
  refine C_thread_Thread_State ?_
  unfold S_thread_Thread_State
  rw [ThrR_open] at *
  intro vj vn vp vr lp
  have hK := hK vj vn vp vr lp
  try simp (maxSteps := 2000000) only [↓RG, RP, RB, BEq.rfl, Int.reduceEq, Int.reduceLT, Int.reduceLE, Nat.reduceEqDiff]
  exact hK
theorem s_thread_Results (hl : x.res.length ≤ 1000000) [i : SelOb L ThrR b x C] (hK : ∀ u, Cells u [u] → G w0 (sl tResE u x.res :: L) (K u)) : G w0 L (CP Tryz.prog Fn.thread_Thread_Results [ptr b 0] K) := by
  refine i.roN (fun M hK => ?_) hK
  refine C_thread_Thread_Results ?_
  unfold S_thread_Thread_Results
  rw [ThrR_open]
  intro vj vn vp vr lp
  try simp (maxSteps := 2000000) only [↓RG, RP, RB, BEq.rfl, Int.reduceEq, Int.reduceLT, Int.reduceLE, Nat.reduceEqDiff]
  refine s_slices_Clone_api_Result_api_Result (xs := x.res) hl fun u hu => ?_
  refine ThrR_close b x vj vn vp vr lp ?_
  exact (hK u hu).sub

/-- a stripe has another version: it goes on as before -/
theorem s_thread_Wake {s ver : Int} (hw : x.state ≠ 4) (hr : ∀ a, x.now = some a → a.rd.length ≤ 1000) [i : SelOb L ThrR b x C] (hK : G w0 L (K (.tuple #[]))) : G w0 L (CP Tryz.prog Fn.thread_Thread_Wake [ptr b 0, i64 s, u64 ver] K) := by
  refine i.ro (fun M hK => ?_) hK
  refine C_thread_Thread_Wake ?_
  unfold S_thread_Thread_Wake
  rw [ThrR_open] at *
  intro vj vn vp vr lp
  have hK := hK vj vn vp vr lp
  cases hn : x.now with
  | none =>
    rw [hn] at hK
    refine G.take1 NowR vn ?_
    rw [Now_none]
    intro e
    subst e
    have hK : G w0 (ob NowR (.pointer none) none :: own b (x.cells vj (.pointer none) vp vr lp) :: ob JobsR vj x.jobs :: ob PastR vp x.past :: sl tResE vr x.res :: ob (BoxR tRestE) lp [] :: M) (K (.tuple #[])) := hK.sub
    rw [Now_none] at hK
    repeat' (first | (with_reducible refine G.joini0 ?_) | (with_reducible refine G.joini1 ?_) | (with_reducible refine G.drew ?_) | (simp (maxSteps := 2000000) only [↓RG, RP, RB, BEq.rfl, Int.reduceEq, Int.reduceLT, Int.reduceLE, Nat.reduceEqDiff]))
    exact hK rfl
  | some a =>
    have hr := hr a hn
    rw [hn] at hK
    refine G.take1 NowR vn ?_
    rw [Now_some]
    intro p e
    subst e
    have hK : G w0 (ob NowR (ptr p 0) (some a) :: own b (x.cells vj (ptr p 0) vp vr lp) :: ob JobsR vj x.jobs :: ob PastR vp x.past :: sl tResE vr x.res :: ob (BoxR tRestE) lp [] :: M) (K (.tuple #[])) := hK.sub
    rw [Now_some] at hK
    have hK := hK p rfl
    repeat' (first | (with_reducible refine G.joini0 ?_) | (with_reducible refine G.joini1 ?_) | (with_reducible refine G.drew ?_) | (simp (maxSteps := 2000000) only [↓RG, RP, RB, BEq.rfl, Int.reduceEq, Int.reduceLT, Int.reduceLE, Nat.reduceEqDiff]))
    refine s_attempt_Seen (x := a) (by omega) fun u hu => ?_
    repeat' (first | (with_reducible refine G.joini0 ?_) | (with_reducible refine G.joini1 ?_) | (with_reducible refine G.drew ?_) | (simp (maxSteps := 2000000) only [↓RG, RP, RB, BEq.rfl, Int.reduceEq, Int.reduceLT, Int.reduceLE, Nat.reduceEqDiff]))
    refine G.loop1 (fun k : Nat => i64 k) (fun k => sl tSeenE u a.rd :: ob AttR p a :: own b (x.cells vj (ptr p 0) vp vr lp) :: ob JobsR vj x.jobs :: ob PastR vp x.past :: sl tResE vr x.res :: ob (BoxR tRestE) lp [] :: M) (fun k => k ≤ a.rd.length) (fun k => a.rd.length - k) 0 rfl rfl (by simp) ?_
    intro k hk J hJ
    try simp (maxSteps := 2000000) only [↓RG, RP, RB, BEq.rfl, Int.reduceEq, Int.reduceLT, Int.reduceLE, Nat.reduceEqDiff]
    refine G.cond (fun h => ?_) (fun h => ?_)
    · have hk2 : k < a.rd.length := by simp at h; omega
      have e := elem_of hk2
      have hnext := hJ (k + 1) hk2 (by omega)
      try simp (maxSteps := 2000000) only [fuse_and, fuse_or, fuse_step, fuse_pair, fuse_in, andP_true]
      try simp (maxSteps := 2000000) only [↓RG, RP, RB, BEq.rfl, Int.reduceEq, Int.reduceLT, Int.reduceLE, Nat.reduceEqDiff]
      refine G.new fun q2 => ?_
      by_cases c1 : a.rd[k].stripe = s
      · by_cases c2 : a.rd[k].version = ver
        · repeat' (first | (with_reducible refine G.joini0 ?_) | (with_reducible refine G.joini1 ?_) | (with_reducible refine G.drew ?_) | (simp (maxSteps := 2000000) only [↓RG, RP, RB, BEq.rfl, Int.reduceEq, Int.reduceLT, Int.reduceLE, Nat.reduceEqDiff, eq_true c1, eq_true c2]))
          rw [wsucc (by omega)]
          exact hnext.sub
        · by_cases c3 : x.state = 1
          · repeat' (first | (with_reducible refine G.joini0 ?_) | (with_reducible refine G.joini1 ?_) | (with_reducible refine G.drew ?_) | (simp (maxSteps := 2000000) only [↓RG, RP, RB, BEq.rfl, Int.reduceEq, Int.reduceLT, Int.reduceLE, Nat.reduceEqDiff, eq_true c1, c2, hw, eq_true c3]))
            refine s_attempt_Blocking (x := a) ?_
            repeat' (first | (with_reducible refine G.joini0 ?_) | (with_reducible refine G.joini1 ?_) | (with_reducible refine G.drew ?_) | (simp (maxSteps := 2000000) only [↓RG, RP, RB, BEq.rfl, Int.reduceEq, Int.reduceLT, Int.reduceLE, Nat.reduceEqDiff]))
            exact hK.sub
          · repeat' (first | (with_reducible refine G.joini0 ?_) | (with_reducible refine G.joini1 ?_) | (with_reducible refine G.drew ?_) | (simp (maxSteps := 2000000) only [↓RG, RP, RB, BEq.rfl, Int.reduceEq, Int.reduceLT, Int.reduceLE, Nat.reduceEqDiff, eq_true c1, c2, hw, c3]))
            exact hK.sub
      · repeat' (first | (with_reducible refine G.joini0 ?_) | (with_reducible refine G.joini1 ?_) | (with_reducible refine G.drew ?_) | (simp (maxSteps := 2000000) only [↓RG, RP, RB, BEq.rfl, Int.reduceEq, Int.reduceLT, Int.reduceLE, Nat.reduceEqDiff, c1]))
        rw [wsucc (by omega)]
        exact hnext.sub
    · exact hK.sub

end
end Go.Proofs.YtoealglbimbbmaaGreatDoor.S

/-
  A THREAD OF JOBS (package thread): an attempt has ended; answers; a new thread.
-/
namespace Go.Proofs.YtoealglbimbbmaaGreatDoor.S
open Go Go.Proofs
set_option linter.unusedVariables false
set_option linter.unusedSimpArgs false

/-- an attempt that has gone, of a program without parts -/
structure GoneOk (a : AttS) : Prop where
  gone : a.state = 8
  known : a.v.k.length ≤ 1000
  cells : a.v.l.cells.length ≤ 1000
  frees : a.v.l.frees = []
  items : a.fin = 2 → a.run.items.length = 1 ∧ ∀ n ∈ a.run.items, 0 ≤ n ∧ n < 10
abbrev textOf (a : AttS) : ByteArray := if a.fin = 2 then textV a.run.items else ⟨#[]⟩
theorem GoneOk.wr {a : AttS} (h : GoneOk a) : a.wr = false := by unfold AttS.wr; rw [h.gone]; simp
theorem GoneOk.done {a : AttS} (h : GoneOk a) : a.done = decide (a.fin = 2) := by
  unfold AttS.done
  rw [if_pos h.gone, h.wr, Bool.or_false]

abbrev toldOf (x : ThrS) (a : AttS) (pick : Int) (r c f : SlV) : TAtt := ⟨x.me, x.job, x.tries, false, a.fin, a.err, a.beg, a.stamp, x.born, pick, r, c, f, textOf a⟩

section
variable {w0 : Base} {L M : List Asn} {K : KV} {F : World → Prop} {C : Asn → List Asn} {b lp p : Nat} {x : ThrS} {v vj vn vp vr : Value} {a : AttS} {draw pick : Int}

theorem G_buildX {zero r : List Value} {ps : List (Nat × Nat × Value)} (h : buildL zero ps = some r) : G w0 L (buildW zero ps K) = G w0 L (K (.agg r.toArray)) := by
  congr 1
  funext w
  simp [buildW, h]

theorem s_thread_told (hg : GoneOk a)
    (hK : ∀ r c f : SlV, G w0 (sl tCellE r.v a.v.k :: sl tCellE c.v (if a.fin = 2 then a.v.l.cells else []) :: sl intE f.v [] :: own b (x.cells vj (ptr p 0) vp vr lp) :: ob AttR p a :: M) (K (.agg (TAtt.cells (toldOf x a pick r c f)).toArray))) :
    G w0 (own b (x.cells vj (ptr p 0) vp vr lp) :: ob AttR p a :: M) (CP Tryz.prog Fn.thread_Thread_told [ptr b 0, i64 pick] K) := by
  refine C_thread_Thread_told ?_
  unfold S_thread_Thread_told
  have h8 := hg.gone
  have hd : (if a.fin = 2 then a.v.l.cells else []) = (if a.done then a.v.l.cells else []) := by rw [hg.done]; by_cases h : a.fin = 2 <;> simp [h]
  have ht : (if a.done then textV a.run.items else ⟨#[]⟩ : ByteArray) = textOf a := by unfold textOf; rw [hg.done]; by_cases h : a.fin = 2 <;> simp [h]
  refine G.new fun q => ?_
  repeat' (first | (with_reducible refine G.joini0 ?_) | (with_reducible refine G.joini1 ?_) | (with_reducible refine G.drew ?_) | (simp (maxSteps := 2000000) only [↓RG, RP, RB, BEq.rfl, Int.reduceEq, Int.reduceLT, Int.reduceLE, Nat.reduceEqDiff]))
  refine s_attempt_Begin (x := a) ?_
  repeat' (first | (with_reducible refine G.joini0 ?_) | (with_reducible refine G.joini1 ?_) | (with_reducible refine G.drew ?_) | (simp (maxSteps := 2000000) only [↓RG, RP, RB, BEq.rfl, Int.reduceEq, Int.reduceLT, Int.reduceLE, Nat.reduceEqDiff]))
  refine s_attempt_End (x := a) ?_
  rw [if_pos h8]
  repeat' (first | (with_reducible refine G.joini0 ?_) | (with_reducible refine G.joini1 ?_) | (with_reducible refine G.drew ?_) | (simp (maxSteps := 2000000) only [↓RG, RP, RB, BEq.rfl, Int.reduceEq, Int.reduceLT, Int.reduceLE, Nat.reduceEqDiff]))
  refine s_attempt_Writing (x := a) ?_
  rw [hg.wr]
  repeat' (first | (with_reducible refine G.joini0 ?_) | (with_reducible refine G.joini1 ?_) | (with_reducible refine G.drew ?_) | (simp (maxSteps := 2000000) only [↓RG, RP, RB, BEq.rfl, Int.reduceEq, Int.reduceLT, Int.reduceLE, Nat.reduceEqDiff]))
  refine s_attempt_Err (x := a) ?_
  rw [if_pos h8]
  repeat' (first | (with_reducible refine G.joini0 ?_) | (with_reducible refine G.joini1 ?_) | (with_reducible refine G.drew ?_) | (simp (maxSteps := 2000000) only [↓RG, RP, RB, BEq.rfl, Int.reduceEq, Int.reduceLT, Int.reduceLE, Nat.reduceEqDiff]))
  refine s_attempt_Stamp (x := a) ?_
  repeat' (first | (with_reducible refine G.joini0 ?_) | (with_reducible refine G.joini1 ?_) | (with_reducible refine G.drew ?_) | (simp (maxSteps := 2000000) only [↓RG, RP, RB, BEq.rfl, Int.reduceEq, Int.reduceLT, Int.reduceLE, Nat.reduceEqDiff]))
  refine s_attempt_Reads (x := a) (by have := hg.known; omega) fun u hu => ?_
  refine G.isSl (v := u) fun r hr => ?_
  subst hr
  repeat' (first | (with_reducible refine G.joini0 ?_) | (with_reducible refine G.joini1 ?_) | (with_reducible refine G.drew ?_) | (simp (maxSteps := 2000000) only [↓RG, RP, RB, BEq.rfl, Int.reduceEq, Int.reduceLT, Int.reduceLE, Nat.reduceEqDiff]))
  refine s_attempt_Cells (x := a) fun c => ?_
  rw [← hd]
  repeat' (first | (with_reducible refine G.joini0 ?_) | (with_reducible refine G.joini1 ?_) | (with_reducible refine G.drew ?_) | (simp (maxSteps := 2000000) only [↓RG, RP, RB, BEq.rfl, Int.reduceEq, Int.reduceLT, Int.reduceLE, Nat.reduceEqDiff]))
  refine s_attempt_Frees (x := a) hg.frees fun f => ?_
  repeat' (first | (with_reducible refine G.joini0 ?_) | (with_reducible refine G.joini1 ?_) | (with_reducible refine G.drew ?_) | (simp (maxSteps := 2000000) only [↓RG, RP, RB, BEq.rfl, Int.reduceEq, Int.reduceLT, Int.reduceLE, Nat.reduceEqDiff]))
  refine s_attempt_Slate (x := a) (fun h => hg.items (by rw [hg.done] at h; simpa using h)) ?_
  rw [ht]
  repeat' (first | (with_reducible refine G.joini0 ?_) | (with_reducible refine G.joini1 ?_) | (with_reducible refine G.drew ?_) | (simp (maxSteps := 2000000) only [↓RG, RP, RB, BEq.rfl, Int.reduceEq, Int.reduceLT, Int.reduceLE, Nat.reduceEqDiff]))
  rw [G_buildX (r := TAtt.cells (toldOf x a pick r c f)) rfl]
  repeat' (first | (with_reducible refine G.joini0 ?_) | (with_reducible refine G.joini1 ?_) | (with_reducible refine G.drew ?_) | (simp (maxSteps := 2000000) only [↓RG, RP, RB, BEq.rfl, Int.reduceEq, Int.reduceLT, Int.reduceLE, Nat.reduceEqDiff]))
  exact (hK r c f).sub

abbrev thrEnded (x : ThrS) (a : AttS) (draw : Int) : ThrS :=
  if a.fin = 5 then
    (if 0 ≤ a.by_ ∧ a.by_ < x.s.threads then { x with past := x.past + 1, tries := IntKind.wrap .i64 (x.tries + 1), conf := IntKind.wrap .i64 (x.conf + 1), state := 2, by_ := a.by_, yld := false }
     else thrPause { x with past := x.past + 1, tries := IntKind.wrap .i64 (x.tries + 1), conf := IntKind.wrap .i64 (x.conf + 1) } draw)
  else thrFollow { x with past := x.past + 1, tries := IntKind.wrap .i64 (x.tries + 1), res := x.res ++ [⟨a.fin, a.err, textOf a, a.stamp⟩] }

theorem Past_push {n : Nat} (u : Value) (l : List (TAtt × List TCell × List TCell)) (e : TAtt) (r c : List TCell) [PickAll [sl tAttE u (l.map (·.1) ++ [e]), ob (BigO pastF) () l, sl tCellE e.reads.v r, sl tCellE e.cells_.v c, sl intE e.frees.v []] L M]
    (hl : l.length = n ∧ ∀ p ∈ l, p.2.1.length ≤ 1000 ∧ p.2.2.length ≤ 1000) (hr : r.length ≤ 1000) (hc : c.length ≤ 1000) (H : G w0 (ob PastR u (n + 1) :: M) F) : G w0 L F :=
  G.pickAll (As := [sl tAttE u (l.map (·.1) ++ [e]), ob (BigO pastF) () l, sl tCellE e.reads.v r, sl tCellE e.cells_.v c, sl intE e.frees.v []]) (by
    rw [Past_open] at H
    have h := H (l ++ [(e, r, c)]) ⟨by simp [hl.1], fun p hp => by
      rcases List.mem_append.1 hp with hp | hp
      · exact hl.2 p hp
      · rw [List.mem_singleton.1 hp]; exact ⟨hr, hc⟩⟩
    rw [List.map_append, List.map_cons, List.map_nil, G_swap, Big_snoc, show pastF (e, r, c) = star (star (sl tCellE e.reads.v r) (sl tCellE e.cells_.v c)) (sl intE e.frees.v []) from rfl, G_star, G_star] at h
    show G w0 (sl tAttE u (l.map (·.1) ++ [e]) :: ob (BigO pastF) () l :: sl tCellE e.reads.v r :: sl tCellE e.cells_.v c :: sl intE e.frees.v [] :: M) F
    exact h.sub)

theorem s_thread_ended (hn : x.now = some a) (hg : GoneOk a) (hp : x.past ≤ 1000000) (hr : x.res.length ≤ 1000000) (h3 : a.fin ≠ 3) (ho : JobsOk x) (ho2 : a.fin ≠ 5 → JobsOk { x with job := x.job + 1 }) (hl : x.jobs.length ≤ 1000000) (hd : 0 ≤ draw) (hd2 : draw ≤ 255) [i : SelOb L ThrR b x C]
    (hK : G w0 (C (ob ThrR b (thrEnded x a draw))) (K (.tuple #[]))) : G w0 L (CP Tryz.prog Fn.thread_Thread_ended [ptr b 0, .int .u8 draw, i64 pick] K) := by
  refine i.use (fun M hK => ?_) hK
  refine C_thread_Thread_ended ?_
  unfold S_thread_Thread_ended
  have h8 := hg.gone
  rw [ThrR_open]
  intro vj vn vp vr lp
  refine G.take1 NowR vn ?_
  rw [hn, Now_some]
  intro p e
  subst e
  repeat' (first | (with_reducible refine G.joini0 ?_) | (with_reducible refine G.joini1 ?_) | (with_reducible refine G.drew ?_) | (simp (maxSteps := 2000000) only [↓RG, RP, RB, BEq.rfl, Int.reduceEq, Int.reduceLT, Int.reduceLE, Nat.reduceEqDiff]))
  refine G.pickAll (As := [own b (x.cells vj (ptr p 0) vp vr lp), ob AttR p a]) ?_
  simp only [List.cons_append, List.nil_append]
  refine s_thread_told (x := x) (pick := pick) hg fun r c f => ?_
  refine G.take1 PastR vp ?_
  rw [Past_open]
  intro l hll
  have hlen : (l.map (·.1)).length = x.past := by simp [hll.1]
  repeat' (first | (with_reducible refine G.joini0 ?_) | (with_reducible refine G.joini1 ?_) | (with_reducible refine G.drew ?_) | (simp (maxSteps := 2000000) only [↓RG, RP, RB, BEq.rfl, Int.reduceEq, Int.reduceLT, Int.reduceLE, Nat.reduceEqDiff]))
  refine G.build tAttE [toldOf x a pick r c f] rfl (by decide) rfl fun u6 h6 => ?_
  repeat' (first | (with_reducible refine G.joini0 ?_) | (with_reducible refine G.joini1 ?_) | (with_reducible refine G.drew ?_) | (simp (maxSteps := 2000000) only [↓RG, RP, RB, BEq.rfl, Int.reduceEq, Int.reduceLT, Int.reduceLE, Nat.reduceEqDiff]))
  refine G.append (E := tAttE) (xs := l.map (fun z : TAtt × List TCell × List TCell => z.1)) (ys := [toldOf x a pick r c f]) (by simp only [hlen, List.length_singleton]; omega) (by simp only [hlen, List.length_singleton, maxLen]; omega) fun u5 h5 => ?_
  repeat' (first | (with_reducible refine G.joini0 ?_) | (with_reducible refine G.joini1 ?_) | (with_reducible refine G.drew ?_) | (simp (maxSteps := 2000000) only [↓RG, RP, RB, BEq.rfl, Int.reduceEq, Int.reduceLT, Int.reduceLE, Nat.reduceEqDiff]))
  refine s_attempt_End (x := a) ?_
  rw [if_pos h8]
  have hcl : (if a.fin = 2 then a.v.l.cells else []).length ≤ 1000 := by split; exact hg.cells; simp
  unfold thrEnded at hK
  by_cases c5 : a.fin = 5
  · rw [if_pos c5] at hK
    repeat' (first | (with_reducible refine G.joini0 ?_) | (with_reducible refine G.joini1 ?_) | (with_reducible refine G.drew ?_) | (simp (maxSteps := 2000000) only [↓RG, RP, RB, BEq.rfl, Int.reduceEq, Int.reduceLT, Int.reduceLE, Nat.reduceEqDiff, eq_true c5]))
    refine s_attempt_By (x := a) ?_
    rw [if_pos h8]
    by_cases cb : 0 ≤ a.by_ ∧ a.by_ < x.s.threads
    · rw [if_pos cb] at hK
      try simp (maxSteps := 2000000) only [fuse_and, fuse_or, fuse_step, fuse_pair, fuse_in, andP_true]
      repeat' (first | (with_reducible refine G.joini0 ?_) | (with_reducible refine G.joini1 ?_) | (with_reducible refine G.drew ?_) | (simp (maxSteps := 2000000) only [↓RG, RP, RB, BEq.rfl, Int.reduceEq, Int.reduceLT, Int.reduceLE, Nat.reduceEqDiff, eq_true cb.1]))
      refine s_attempt_By (x := a) ?_
      rw [if_pos h8]
      repeat' (first | (with_reducible refine G.joini0 ?_) | (with_reducible refine G.joini1 ?_) | (with_reducible refine G.drew ?_) | (simp (maxSteps := 2000000) only [↓RG, RP, RB, BEq.rfl, Int.reduceEq, Int.reduceLT, Int.reduceLE, Nat.reduceEqDiff, eq_true cb.2]))
      refine s_attempt_By (x := a) ?_
      rw [if_pos h8]
      repeat' (first | (with_reducible refine G.joini0 ?_) | (with_reducible refine G.joini1 ?_) | (with_reducible refine G.drew ?_) | (simp (maxSteps := 2000000) only [↓RG, RP, RB, BEq.rfl, Int.reduceEq, Int.reduceLT, Int.reduceLE, Nat.reduceEqDiff]))
      refine Past_push u5 l (toldOf x a pick r c f) a.v.k (if a.fin = 2 then a.v.l.cells else []) hll hg.known hcl ?_
      refine Now_shut p a ?_
      rw [← hn]
      refine ThrR_close b { x with past := x.past + 1, tries := IntKind.wrap .i64 (x.tries + 1), conf := IntKind.wrap .i64 (x.conf + 1), state := 2, by_ := a.by_, yld := false } vj (ptr p 0) u5 vr lp ?_
      exact hK.sub
    · rw [if_neg cb] at hK
      have hp2 : G w0 (own b (ThrS.cells { x with past := x.past + 1, tries := IntKind.wrap .i64 (x.tries + 1), conf := IntKind.wrap .i64 (x.conf + 1) } vj (ptr p 0) u5 vr lp) :: sl tAttE u5 (l.map (·.1) ++ [toldOf x a pick r c f]) :: ob (BigO pastF) () l :: sl tCellE r.v a.v.k :: sl tCellE c.v (if a.fin = 2 then a.v.l.cells else []) :: sl intE f.v [] :: ob AttR p a :: ob JobsR vj x.jobs :: sl tResE vr x.res :: ob (BoxR tRestE) lp [] :: M)
          (CP Tryz.prog Fn.thread_Thread_pause [ptr b 0, .int .u8 draw] (fun x55 => K (.tuple #[]))) := by
        refine Past_push u5 l (toldOf x a pick r c f) a.v.k (if a.fin = 2 then a.v.l.cells else []) hll hg.known hcl ?_
        refine Now_shut p a ?_
        rw [← hn]
        refine ThrR_close b { x with past := x.past + 1, tries := IntKind.wrap .i64 (x.tries + 1), conf := IntKind.wrap .i64 (x.conf + 1) } vj (ptr p 0) u5 vr lp ?_
        refine s_thread_pause (x := { x with past := x.past + 1, tries := IntKind.wrap .i64 (x.tries + 1), conf := IntKind.wrap .i64 (x.conf + 1) }) ⟨ho.lo, ho.hi, ho.progs⟩ hd hd2 ?_
        exact hK.sub
      try simp (maxSteps := 2000000) only [fuse_and, fuse_or, fuse_step, fuse_pair, fuse_in, andP_true]
      by_cases cb0 : 0 ≤ a.by_
      · have cb1 : ¬ a.by_ < x.s.threads := fun h => cb ⟨cb0, h⟩
        repeat' (first | (with_reducible refine G.joini0 ?_) | (with_reducible refine G.joini1 ?_) | (with_reducible refine G.drew ?_) | (simp (maxSteps := 2000000) only [↓RG, RP, RB, BEq.rfl, Int.reduceEq, Int.reduceLT, Int.reduceLE, Nat.reduceEqDiff, eq_true cb0]))
        refine s_attempt_By (x := a) ?_
        rw [if_pos h8]
        repeat' (first | (with_reducible refine G.joini0 ?_) | (with_reducible refine G.joini1 ?_) | (with_reducible refine G.drew ?_) | (simp (maxSteps := 2000000) only [↓RG, RP, RB, BEq.rfl, Int.reduceEq, Int.reduceLT, Int.reduceLE, Nat.reduceEqDiff, cb1]))
        exact hp2.sub
      · repeat' (first | (with_reducible refine G.joini0 ?_) | (with_reducible refine G.joini1 ?_) | (with_reducible refine G.drew ?_) | (simp (maxSteps := 2000000) only [↓RG, RP, RB, BEq.rfl, Int.reduceEq, Int.reduceLT, Int.reduceLE, Nat.reduceEqDiff, cb0]))
        exact hp2.sub
  · rw [if_neg c5] at hK
    repeat' (first | (with_reducible refine G.joini0 ?_) | (with_reducible refine G.joini1 ?_) | (with_reducible refine G.drew ?_) | (simp (maxSteps := 2000000) only [↓RG, RP, RB, BEq.rfl, Int.reduceEq, Int.reduceLT, Int.reduceLE, Nat.reduceEqDiff, c5]))
    refine s_attempt_End (x := a) ?_
    rw [if_pos h8]
    repeat' (first | (with_reducible refine G.joini0 ?_) | (with_reducible refine G.joini1 ?_) | (with_reducible refine G.drew ?_) | (simp (maxSteps := 2000000) only [↓RG, RP, RB, BEq.rfl, Int.reduceEq, Int.reduceLT, Int.reduceLE, Nat.reduceEqDiff, h3]))
    refine s_attempt_End (x := a) ?_
    rw [if_pos h8]
    repeat' (first | (with_reducible refine G.joini0 ?_) | (with_reducible refine G.joini1 ?_) | (with_reducible refine G.drew ?_) | (simp (maxSteps := 2000000) only [↓RG, RP, RB, BEq.rfl, Int.reduceEq, Int.reduceLT, Int.reduceLE, Nat.reduceEqDiff]))
    refine s_attempt_Err (x := a) ?_
    rw [if_pos h8]
    repeat' (first | (with_reducible refine G.joini0 ?_) | (with_reducible refine G.joini1 ?_) | (with_reducible refine G.drew ?_) | (simp (maxSteps := 2000000) only [↓RG, RP, RB, BEq.rfl, Int.reduceEq, Int.reduceLT, Int.reduceLE, Nat.reduceEqDiff]))
    refine s_attempt_Slate (x := a) (fun h => hg.items (by rw [hg.done] at h; simpa using h)) ?_
    have ht : (if a.done then textV a.run.items else ⟨#[]⟩ : ByteArray) = textOf a := by unfold textOf; rw [hg.done]; by_cases h : a.fin = 2 <;> simp [h]
    rw [ht]
    repeat' (first | (with_reducible refine G.joini0 ?_) | (with_reducible refine G.joini1 ?_) | (with_reducible refine G.drew ?_) | (simp (maxSteps := 2000000) only [↓RG, RP, RB, BEq.rfl, Int.reduceEq, Int.reduceLT, Int.reduceLE, Nat.reduceEqDiff]))
    refine s_attempt_Stamp (x := a) ?_
    repeat' (first | (with_reducible refine G.joini0 ?_) | (with_reducible refine G.joini1 ?_) | (with_reducible refine G.drew ?_) | (simp (maxSteps := 2000000) only [↓RG, RP, RB, BEq.rfl, Int.reduceEq, Int.reduceLT, Int.reduceLE, Nat.reduceEqDiff]))
    refine G.build tResE [⟨a.fin, a.err, textOf a, a.stamp⟩] rfl (by decide) rfl fun u7 h7 => ?_
    repeat' (first | (with_reducible refine G.joini0 ?_) | (with_reducible refine G.joini1 ?_) | (with_reducible refine G.drew ?_) | (simp (maxSteps := 2000000) only [↓RG, RP, RB, BEq.rfl, Int.reduceEq, Int.reduceLT, Int.reduceLE, Nat.reduceEqDiff]))
    refine G.append (E := tResE) (xs := x.res) (ys := [⟨a.fin, a.err, textOf a, a.stamp⟩]) (by simp only [List.length_singleton]; omega) (by simp only [List.length_singleton, maxLen]; omega) fun u8 h8' => ?_
    repeat' (first | (with_reducible refine G.joini0 ?_) | (with_reducible refine G.joini1 ?_) | (with_reducible refine G.drew ?_) | (simp (maxSteps := 2000000) only [↓RG, RP, RB, BEq.rfl, Int.reduceEq, Int.reduceLT, Int.reduceLE, Nat.reduceEqDiff]))
    refine s_attempt_Stamp (x := a) ?_
    repeat' (first | (with_reducible refine G.joini0 ?_) | (with_reducible refine G.joini1 ?_) | (with_reducible refine G.drew ?_) | (simp (maxSteps := 2000000) only [↓RG, RP, RB, BEq.rfl, Int.reduceEq, Int.reduceLT, Int.reduceLE, Nat.reduceEqDiff]))
    refine s_attempt_Frees (x := a) hg.frees fun f2 => ?_
    repeat' (first | (with_reducible refine G.joini0 ?_) | (with_reducible refine G.joini1 ?_) | (with_reducible refine G.drew ?_) | (simp (maxSteps := 2000000) only [↓RG, RP, RB, BEq.rfl, Int.reduceEq, Int.reduceLT, Int.reduceLE, Nat.reduceEqDiff]))
    refine s_limbo_Limbo_Add (xs := []) (bs := []) (by simp) ?_
    simp only [List.map_nil, List.append_nil]
    repeat' (first | (with_reducible refine G.joini0 ?_) | (with_reducible refine G.joini1 ?_) | (with_reducible refine G.drew ?_) | (simp (maxSteps := 2000000) only [↓RG, RP, RB, BEq.rfl, Int.reduceEq, Int.reduceLT, Int.reduceLE, Nat.reduceEqDiff]))
    refine Past_push u5 l (toldOf x a pick r c f) a.v.k (if a.fin = 2 then a.v.l.cells else []) hll hg.known hcl ?_
    refine Now_shut p a ?_
    rw [← hn]
    refine ThrR_close b { x with past := x.past + 1, tries := IntKind.wrap .i64 (x.tries + 1), res := x.res ++ [⟨a.fin, a.err, textOf a, a.stamp⟩] } vj (ptr p 0) u5 u8 lp ?_
    refine s_thread_over (x := { x with past := x.past + 1, tries := IntKind.wrap .i64 (x.tries + 1), res := x.res ++ [⟨a.fin, a.err, textOf a, a.stamp⟩] }) ⟨(ho2 c5).lo, (ho2 c5).hi, (ho2 c5).progs⟩ hl ?_
    repeat' (first | (with_reducible refine G.joini0 ?_) | (with_reducible refine G.joini1 ?_) | (with_reducible refine G.drew ?_) | (simp (maxSteps := 2000000) only [↓RG, RP, RB, BEq.rfl, Int.reduceEq, Int.reduceLT, Int.reduceLE, Nat.reduceEqDiff]))
    exact hK.sub

end
end Go.Proofs.YtoealglbimbbmaaGreatDoor.S
