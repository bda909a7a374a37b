/-
  A THREAD OF JOBS (package thread): answers; a new thread; attempts.
-/
import Derived.Test.YtoealglbimbbmaaGreatDoorThrW
namespace Go.Proofs.YtoealglbimbbmaaGreatDoor.S
open Go Go.Proofs
set_option linter.unusedVariables false
set_option linter.unusedSimpArgs false

abbrev thrNext (x : ThrS) : TOp × Bool := if x.state = 1 then (match x.now with | some a => attNext a | none => (zeroOp, false)) else if x.state = 2 then (⟨8, x.by_, 0, 0, zeroLock, zeroLock⟩, true) else (zeroOp, false)
/-- an attempt has heard an answer -/
abbrev thrHeard (x : ThrS) (a a' : AttS) (draw pick : Int) : ThrS :=
  if a'.state = 8 ∧ a'.fin ≠ 0 then thrEnded { x with now := some a', born := if a'.begun && !a.begun then pick else x.born } a' draw else { x with now := some a', born := if a'.begun && !a.begun then pick else x.born }
abbrev thrTell (c : Int) (rdo : Bool) (x : ThrS) (a : TAns) (draw pick : Int) : ThrS :=
  if x.state = 1 then (match x.now with | some at_ => thrHeard x at_ (attTell c rdo at_ a) draw pick | none => x)
  else if x.state = 2 then thrYield x a draw else x

/-- what is so when a thread hears an answer -/
structure HearOk (c : Int) (rdo : Bool) (x : ThrS) (a : TAns) : Prop where
  jobs : JobsOk x
  few : x.jobs.length ≤ 1000000
  past : x.past ≤ 1000000
  res : x.res.length ≤ 1000000
  run : x.state = 1 → ∃ at_, x.now = some at_ ∧ TellOk c rdo at_ a ∧ ((attTell c rdo at_ a).state = 8 → GoneOk (attTell c rdo at_ a) ∧ (attTell c rdo at_ a).fin ≠ 3 ∧ x.job < x.jobs.length)

section
variable {w0 : Base} {L M : List Asn} {K : KV} {F : World → Prop} {C : Asn → List Asn} {b lp p : Nat} {x : ThrS} {v vj vn vp vr : Value} {draw pick c : Int} {rdo : Bool}

theorem s_thread_Next (h5 : x.state ≠ 5) (ho : x.state = 1 → ∃ a, x.now = some a ∧ (a.state ≠ 0 → a.state ≠ 1 → a.state ≠ 2 → a.state ≠ 7 → a.state ≠ 8 → a.inn.ok)) [i : SelOb L ThrR b x C]
    (hK : G w0 L (K (.tuple #[.agg (TOp.cells (thrNext x).1).toArray, .bool (thrNext x).2]))) : G w0 L (CP Tryz.prog Fn.thread_Thread_Next [ptr b 0] K) := by
  refine i.ro (fun M hK => ?_) hK
  refine C_thread_Thread_Next ?_
  unfold S_thread_Thread_Next
  refine G.new fun q => ?_
  rw [G_swap]
  rw [ThrR_open] at *
  intro vj vn vp vr lp
  have hK := hK vj vn vp vr lp
  unfold thrNext at hK
  by_cases s1 : x.state = 1
  · obtain ⟨a, hn, ha⟩ := ho s1
    simp only [s1, if_true, hn] at hK
    have hK : G w0 (ob NowR vn (some a) :: own b (x.cells vj vn vp vr lp) :: ob JobsR vj x.jobs :: ob PastR vp x.past :: sl tResE vr x.res :: ob (BoxR tRestE) lp [] :: M) (K (.tuple #[.agg (TOp.cells (attNext a).1).toArray, .bool (attNext a).2])) := hK.sub
    rw [Now_some] at hK
    refine G.take1 NowR vn ?_
    rw [hn, Now_some]
    intro p e
    have hK := hK p e
    subst e
    repeat' (first | (with_reducible refine G.joini0 ?_) | (with_reducible refine G.joini1 ?_) | (with_reducible refine G.drew ?_) | (simp (maxSteps := 2000000) only [↓RG, RP, RB, BEq.rfl, Int.reduceEq, Int.reduceLT, Int.reduceLE, Nat.reduceEqDiff, eq_true s1]))
    refine s_attempt_Next (x := a) ha ?_
    repeat' (first | (with_reducible refine G.joini0 ?_) | (with_reducible refine G.joini1 ?_) | (with_reducible refine G.drew ?_) | (simp (maxSteps := 2000000) only [↓RG, RP, RB, BEq.rfl, Int.reduceEq, Int.reduceLT, Int.reduceLE, Nat.reduceEqDiff]))
    exact hK.sub
  · rw [if_neg s1] at hK
    by_cases s2 : x.state = 2
    · rw [if_pos s2] at hK
      repeat' (first | (with_reducible refine G.joini0 ?_) | (with_reducible refine G.joini1 ?_) | (with_reducible refine G.drew ?_) | (simp (maxSteps := 2000000) only [↓RG, RP, RB, BEq.rfl, Int.reduceEq, Int.reduceLT, Int.reduceLE, Nat.reduceEqDiff, s1, eq_true s2]))
      exact hK.sub
    · rw [if_neg s2] at hK
      repeat' (first | (with_reducible refine G.joini0 ?_) | (with_reducible refine G.joini1 ?_) | (with_reducible refine G.drew ?_) | (simp (maxSteps := 2000000) only [↓RG, RP, RB, BEq.rfl, Int.reduceEq, Int.reduceLT, Int.reduceLE, Nat.reduceEqDiff, s1, s2, h5]))
      exact hK.sub

theorem s_thread_Tell {a : TAns} (h1 : 6 ≤ c) (h2 : c ≤ 15) (h5 : x.state ≠ 5) (ho : HearOk c rdo x a) (hd : 0 ≤ draw) (hd2 : draw ≤ 255) [i : SelOb L ThrR b x C]
    (hK : G w0 (C (ob ThrR b (thrTell c rdo x a draw pick))) (K (.tuple #[]))) : G w0 L (CP Tryz.prog Fn.thread_Thread_Tell [ptr b 0, .agg (TAns.cells a).toArray, .int .u8 draw, i64 pick] K) := by
  refine i.use (fun M hK => ?_) hK
  refine C_thread_Thread_Tell ?_
  unfold S_thread_Thread_Tell
  refine G.box fun q => ?_
  rw [G_swap, ThrR_open]
  intro vj vn vp vr lp
  unfold thrTell at hK
  by_cases s1 : x.state = 1
  · obtain ⟨at_, hn, ht, hg⟩ := ho.run s1
    rw [if_pos s1] at hK
    simp only [hn] at hK
    unfold thrHeard at hK
    refine G.take1 NowR vn ?_
    rw [hn, Now_some]
    intro p e
    subst e
    repeat' (first | (with_reducible refine G.joini0 ?_) | (with_reducible refine G.joini1 ?_) | (with_reducible refine G.drew ?_) | (simp (maxSteps := 2000000) only [↓RG, RP, RB, BEq.rfl, Int.reduceEq, Int.reduceLT, Int.reduceLE, Nat.reduceEqDiff, eq_true s1]))
    refine s_attempt_Begin (x := at_) ?_
    repeat' (first | (with_reducible refine G.joini0 ?_) | (with_reducible refine G.joini1 ?_) | (with_reducible refine G.drew ?_) | (simp (maxSteps := 2000000) only [↓RG, RP, RB, BEq.rfl, Int.reduceEq, Int.reduceLT, Int.reduceLE, Nat.reduceEqDiff]))
    refine s_attempt_Tell (x := at_) (c := c) (rdo := rdo) (a := a) h1 h2 ht ?_
    generalize hat : attTell c rdo at_ a = a2 at hK hg
    repeat' (first | (with_reducible refine G.joini0 ?_) | (with_reducible refine G.joini1 ?_) | (with_reducible refine G.drew ?_) | (simp (maxSteps := 2000000) only [↓RG, RP, RB, BEq.rfl, Int.reduceEq, Int.reduceLT, Int.reduceLE, Nat.reduceEqDiff]))
    refine s_attempt_Begin (x := a2) ?_
    try simp (maxSteps := 2000000) only [fuse_and, fuse_or, fuse_step, fuse_pair, fuse_in, andP_true]
    try simp (maxSteps := 2000000) only [↓RG, RP, RB, BEq.rfl, Int.reduceEq, Int.reduceLT, Int.reduceLE, Nat.reduceEqDiff]
    refine G.joini0 ?_
    have hfin : ∀ bn : Int, bn = (if a2.begun && !at_.begun then pick else x.born) → G w0 (ob AttR p a2 :: own b (ThrS.cells { x with now := some a2, born := bn } vj (ptr p 0) vp vr lp) :: ob JobsR vj x.jobs :: ob PastR vp x.past :: sl tResE vr x.res :: ob (BoxR tRestE) lp [] :: own q (TAns.cells a) :: M)
        (CP Tryz.prog Fn.attempt_Attempt_End [ptr p 0] (fun x29 => binIntW .neq x29 (i64 0) (fun x30 => joinW0 (K (.tuple #[])) (fun j3 => condP x30 (CP Tryz.prog Fn.thread_Thread_ended [ptr b 0, .int .u8 draw, i64 pick] (fun x31 => j3)) j3)))) := by
      intro bn hbn
      rw [← hbn] at hK
      repeat' (first | (with_reducible refine G.joini0 ?_) | (with_reducible refine G.joini1 ?_) | (with_reducible refine G.drew ?_) | (simp (maxSteps := 2000000) only [↓RG, RP, RB, BEq.rfl, Int.reduceEq, Int.reduceLT, Int.reduceLE, Nat.reduceEqDiff]))
      refine s_attempt_End (x := a2) ?_
      by_cases c8 : a2.state = 8
      · obtain ⟨g1, g2, g3⟩ := hg c8
        rw [if_pos c8]
        by_cases cf : a2.fin = 0
        · rw [if_neg (fun h => h.2 cf)] at hK
          rw [cf]
          repeat' (first | (with_reducible refine G.joini0 ?_) | (with_reducible refine G.joini1 ?_) | (with_reducible refine G.drew ?_) | (simp (maxSteps := 2000000) only [↓RG, RP, RB, BEq.rfl, Int.reduceEq, Int.reduceLT, Int.reduceLE, Nat.reduceEqDiff]))
          refine Now_shut p a2 ?_
          refine ThrR_close b { x with now := some a2, born := bn } vj (ptr p 0) vp vr lp ?_
          exact hK.sub
        · rw [if_pos ⟨c8, cf⟩] at hK
          repeat' (first | (with_reducible refine G.joini0 ?_) | (with_reducible refine G.joini1 ?_) | (with_reducible refine G.drew ?_) | (simp (maxSteps := 2000000) only [↓RG, RP, RB, BEq.rfl, Int.reduceEq, Int.reduceLT, Int.reduceLE, Nat.reduceEqDiff, cf]))
          refine Now_shut p a2 ?_
          refine ThrR_close b { x with now := some a2, born := bn } vj (ptr p 0) vp vr lp ?_
          have hj := ho.jobs
          refine s_thread_ended (x := { x with now := some a2, born := bn }) (a := a2) rfl g1 ho.past ho.res g2 ⟨hj.lo, hj.hi, hj.progs⟩ (fun _ => ⟨by have := hj.lo; simp only; omega, by simp only; omega, hj.progs⟩) ho.few hd hd2 ?_
          repeat' (first | (with_reducible refine G.joini0 ?_) | (with_reducible refine G.joini1 ?_) | (with_reducible refine G.drew ?_) | (simp (maxSteps := 2000000) only [↓RG, RP, RB, BEq.rfl, Int.reduceEq, Int.reduceLT, Int.reduceLE, Nat.reduceEqDiff]))
          exact hK.sub
      · rw [if_neg c8]
        rw [if_neg (fun h => c8 h.1)] at hK
        repeat' (first | (with_reducible refine G.joini0 ?_) | (with_reducible refine G.joini1 ?_) | (with_reducible refine G.drew ?_) | (simp (maxSteps := 2000000) only [↓RG, RP, RB, BEq.rfl, Int.reduceEq, Int.reduceLT, Int.reduceLE, Nat.reduceEqDiff]))
        refine Now_shut p a2 ?_
        refine ThrR_close b { x with now := some a2, born := bn } vj (ptr p 0) vp vr lp ?_
        exact hK.sub
    cases hb : (a2.begun && !at_.begun)
    · have h := hfin x.born (by rw [hb]; simp)
      repeat' (first | (with_reducible refine G.joini0 ?_) | (with_reducible refine G.joini1 ?_) | (with_reducible refine G.drew ?_) | (simp (maxSteps := 2000000) only [↓RG, RP, RB, BEq.rfl, Int.reduceEq, Int.reduceLT, Int.reduceLE, Nat.reduceEqDiff]))
      exact h
    · have h := hfin pick (by rw [hb]; simp)
      repeat' (first | (with_reducible refine G.joini0 ?_) | (with_reducible refine G.joini1 ?_) | (with_reducible refine G.drew ?_) | (simp (maxSteps := 2000000) only [↓RG, RP, RB, BEq.rfl, Int.reduceEq, Int.reduceLT, Int.reduceLE, Nat.reduceEqDiff]))
      exact h
  · rw [if_neg s1] at hK
    by_cases s2 : x.state = 2
    · rw [if_pos s2] at hK
      repeat' (first | (with_reducible refine G.joini0 ?_) | (with_reducible refine G.joini1 ?_) | (with_reducible refine G.drew ?_) | (simp (maxSteps := 2000000) only [↓RG, RP, RB, BEq.rfl, Int.reduceEq, Int.reduceLT, Int.reduceLE, Nat.reduceEqDiff, s1, eq_true s2]))
      refine ThrR_close b x vj vn vp vr lp ?_
      refine s_thread_yield (x := x) (a := a) ho.jobs hd hd2 ?_
      repeat' (first | (with_reducible refine G.joini0 ?_) | (with_reducible refine G.joini1 ?_) | (with_reducible refine G.drew ?_) | (simp (maxSteps := 2000000) only [↓RG, RP, RB, BEq.rfl, Int.reduceEq, Int.reduceLT, Int.reduceLE, Nat.reduceEqDiff]))
      exact hK.sub
    · rw [if_neg s2, ThrR_open] at hK
      repeat' (first | (with_reducible refine G.joini0 ?_) | (with_reducible refine G.joini1 ?_) | (with_reducible refine G.drew ?_) | (simp (maxSteps := 2000000) only [↓RG, RP, RB, BEq.rfl, Int.reduceEq, Int.reduceLT, Int.reduceLE, Nat.reduceEqDiff, s1, s2, h5]))
      exact (hK vj vn vp vr lp).sub

end
end Go.Proofs.YtoealglbimbbmaaGreatDoor.S

/-
  A THREAD OF JOBS (package thread): a new one; what is told of its attempts.
-/
namespace Go.Proofs.YtoealglbimbbmaaGreatDoor.S
open Go Go.Proofs
set_option linter.unusedVariables false
set_option linter.unusedSimpArgs false

theorem G.sliceAll {α : Type} {E : Enc α} {w0 : Base} {L : List Asn} {C : Asn → List Asn} {v : Value} {xs : List α} {K : KV} {sz : Nat} [s : SelSl L v E xs C] (h : G w0 L (K v)) : G w0 L (sliceW sz v none (some (i64 xs.length)) K) := fun w H => by
  obtain ⟨M, e1, e2⟩ := sl_front (w0 := w0) s.sel
  have hw := h w H
  rcases ((e1 w).1 H).sl_cases with ⟨rfl, rfl, H2⟩ | ⟨c, cap, rest, rfl, g2, g3, H2⟩
  · simpa [sliceW, bound] using hw
  · simp only [sliceW, bound]
    refine ⟨by omega, by omega, by omega, ?_⟩
    have e : (if cap = ((0 : Nat) : Int).toNat then some (⟨c, 0, none⟩ : Addr) else Option.map (fun x => x.add (((0 : Nat) : Int).toNat * sz)) (some (⟨c, 0, none⟩ : Addr))) = some ⟨c, 0, none⟩ := by
      split
      · rfl
      · simp [Addr.add]
    have e2 : ((xs.length : Int)).toNat - ((0 : Nat) : Int).toNat = xs.length := by simp
    have e3 : cap - ((0 : Nat) : Int).toNat = cap := by simp
    rw [e, e2, e3]
    exact hw

abbrev thrNew (me : Int) (s : TSet) (jobs : List (List TIns)) : ThrS := thrFollow ⟨me, heldSet s, jobs, -1, 0, 0, 0, none, 0, 0, [], 0, 0, false, 0⟩

section
variable {w0 : Base} {L M : List Asn} {K : KV} {F : World → Prop} {C : Asn → List Asn} {b lp p : Nat} {x : ThrS} {v vj vn vp vr : Value}

theorem heldSet_held (s : TSet) : heldSet (heldSet s) = heldSet s := by
  unfold heldSet heldShape
  simp only [held_held (show (32 : Int) ≤ 256 by decide), held_held (show (1 : Int) ≤ 16 by decide), held_held (show (1 : Int) ≤ 4 by decide), held_held (show (0 : Int) ≤ 4 by decide), held_held (show (0 : Int) ≤ 96 by decide), held_held (show (0 : Int) ≤ 400 by decide)]
  congr 1
  split <;> simp_all

theorem s_thread_New {me : Int} {s : TSet} {jobs : List (List TIns)} (hm0 : 0 ≤ me) (hm1 : me < (heldSet s).threads) (h6 : jobs.length ≤ 6) (hok : ∀ p ∈ jobs, OkProg p) [i : SelOb L JobsR v jobs C]
    (hK : ∀ b, G w0 (ob ThrR b (thrNew me s jobs) :: L) (K (ptr b 0))) : G w0 L (CP Tryz.prog Fn.thread_New [i64 me, .agg (TSet.cells s).toArray, v] K) := by
  refine i.roN (P := fun _ => True) (N := fun b => ob ThrR b (thrNew me s jobs)) (F' := fun b => K (ptr b 0)) (fun M hK => ?_) (fun b _ => hK b)
  refine C_thread_New ?_
  unfold S_thread_New
  rw [Jobs_open]
  intro l hl
  have hlen : l.length = jobs.length := by rw [← hl]; simp
  have ht4 : (heldSet s).threads ≤ 4 := (held_le (n := s.threads) (lo := 1) (hi := 4) (by omega)).2
  refine G.box fun q => ?_
  repeat' (first | (with_reducible refine G.joini0 ?_) | (with_reducible refine G.joini1 ?_) | (with_reducible refine G.drew ?_) | (simp (maxSteps := 2000000) only [↓RG, RP, RB, BEq.rfl, Int.reduceEq, Int.reduceLT, Int.reduceLE, Nat.reduceEqDiff]))
  refine s_attempt_Held ?_
  repeat' (first | (with_reducible refine G.joini0 ?_) | (with_reducible refine G.joini1 ?_) | (with_reducible refine G.drew ?_) | (simp (maxSteps := 2000000) only [↓RG, RP, RB, BEq.rfl, Int.reduceEq, Int.reduceLT, Int.reduceLE, Nat.reduceEqDiff]))
  rw [wi64 (n := (heldSet s).threads - 1) (by omega) (by omega)]
  have e1 : (if (heldSet s).threads - 1 < me then (heldSet s).threads - 1 else me) = me := by rw [if_neg (by omega)]
  have e2 : (if me > 0 then me else 0) = me := by split <;> omega
  repeat' (first | (with_reducible refine G.joini0 ?_) | (with_reducible refine G.joini1 ?_) | (with_reducible refine G.drew ?_) | (simp (maxSteps := 2000000) only [↓RG, RP, RB, BEq.rfl, Int.reduceEq, Int.reduceLT, Int.reduceLE, Nat.reduceEqDiff, e1, e2]))
  refine s_limbo_New fun lp => ?_
  repeat' (first | (with_reducible refine G.joini0 ?_) | (with_reducible refine G.joini1 ?_) | (with_reducible refine G.drew ?_) | (simp (maxSteps := 2000000) only [↓RG, RP, RB, BEq.rfl, Int.reduceEq, Int.reduceLT, Int.reduceLE, Nat.reduceEqDiff]))
  refine G.box fun b => ?_
  have hc : (if ((6 : Int) < ((l.map (·.1)).length : Int)) then 6 else ((l.map (·.1)).length : Int)) = ((l.map (·.1)).length : Int) := by rw [if_neg (by simp; omega)]
  repeat' (first | (with_reducible refine G.joini0 ?_) | (with_reducible refine G.joini1 ?_) | (with_reducible refine G.drew ?_) | (simp (maxSteps := 2000000) only [↓RG, RP, RB, BEq.rfl, Int.reduceEq, Int.reduceLT, Int.reduceLE, Nat.reduceEqDiff, hc]))
  refine G.sliceAll ?_
  repeat' (first | (with_reducible refine G.joini0 ?_) | (with_reducible refine G.joini1 ?_) | (with_reducible refine G.drew ?_) | (simp (maxSteps := 2000000) only [↓RG, RP, RB, BEq.rfl, Int.reduceEq, Int.reduceLT, Int.reduceLE, Nat.reduceEqDiff]))
  refine G.nilsl progE ?_
  refine Big_nil (f := jobF) ?_
  refine G.loop1 (σ := Nat × List (SlV × List TIns) × Value) (fun s => i64 s.1) (fun z => ob (BigO jobF) () z.2.1 :: sl progE z.2.2 (z.2.1.map (·.1)) :: own b (ThrS.cells ⟨me, heldSet s, jobs, -1, 0, 0, 0, none, 0, 0, [], 0, 0, false, 0⟩ z.2.2 (.pointer none) (.slice none 0 0) (.slice none 0 0) lp) :: ob (BoxR tRestE) lp [] :: own q (TSet.cells (heldSet s)) :: sl progE v (l.map (·.1)) :: ob (BigO jobF) () l :: M)
    (fun z => z.1 ≤ l.length ∧ z.2.1.map (·.2) = jobs.take z.1 ∧ Cells z.2.2 [z.2.2]) (fun z => l.length - z.1) (0, [], .slice none 0 0) rfl rfl ⟨Nat.zero_le _, rfl, cells_slice⟩ ?_
  rintro ⟨k, l', vj⟩ ⟨hk, hl', hvj⟩ J hJ
  simp only at hk hl' hvj hJ ⊢
  have hlen' : l'.length = k := by
    have := congrArg List.length hl'
    simp only [List.length_map, List.length_take] at this
    omega
  try simp (maxSteps := 2000000) only [↓RG, RP, RB, BEq.rfl, Int.reduceEq, Int.reduceLT, Int.reduceLE, Nat.reduceEqDiff]
  refine G.cond (fun h => ?_) (fun h => ?_)
  · have hkl : k < l.length := by simpa using h
    have hkj : k < jobs.length := by omega
    have e : Elem (l.map (·.1)) k l[k].1 := ⟨by rw [List.getElem?_map, List.getElem?_eq_getElem hkl]; rfl⟩
    have hq : l[k].2 = jobs[k] := by simp only [← hl, List.getElem_map]
    have hpo := hok _ (List.getElem_mem hkj)
    repeat' (first | (with_reducible refine G.joini0 ?_) | (with_reducible refine G.joini1 ?_) | (with_reducible refine G.drew ?_) | (simp (maxSteps := 2000000) only [↓RG, RP, RB, BEq.rfl, Int.reduceEq, Int.reduceLT, Int.reduceLE, Nat.reduceEqDiff]))
    refine G.new fun q2 => ?_
    repeat' (first | (with_reducible refine G.joini0 ?_) | (with_reducible refine G.joini1 ?_) | (with_reducible refine G.drew ?_) | (simp (maxSteps := 2000000) only [↓RG, RP, RB, BEq.rfl, Int.reduceEq, Int.reduceLT, Int.reduceLE, Nat.reduceEqDiff]))
    refine G.pickAll (As := [ob (BigO jobF) () l]) ?_
    simp only [List.cons_append, List.nil_append]
    refine s_slices_Clone_api_Ins_api_Ins (r := job_rd (List.getElem?_eq_getElem hkl)) (by rw [hq]; have := hpo.2.1; omega) fun u hu => ?_
    refine G.isSl (v := u) fun su hsu => ?_
    subst hsu
    repeat' (first | (with_reducible refine G.joini0 ?_) | (with_reducible refine G.joini1 ?_) | (with_reducible refine G.drew ?_) | (simp (maxSteps := 2000000) only [↓RG, RP, RB, BEq.rfl, Int.reduceEq, Int.reduceLT, Int.reduceLE, Nat.reduceEqDiff]))
    refine G.build progE [su] rfl (by decide) rfl fun y hy => ?_
    repeat' (first | (with_reducible refine G.joini0 ?_) | (with_reducible refine G.joini1 ?_) | (with_reducible refine G.drew ?_) | (simp (maxSteps := 2000000) only [↓RG, RP, RB, BEq.rfl, Int.reduceEq, Int.reduceLT, Int.reduceLE, Nat.reduceEqDiff]))
    refine G.append (E := progE) (xs := l'.map (fun z : SlV × List TIns => z.1)) (ys := [su]) (by simp only [List.length_map, List.length_singleton]; omega) (by simp only [List.length_map, List.length_singleton, maxLen]; omega) fun u5 h5 => ?_
    repeat' (first | (with_reducible refine G.joini0 ?_) | (with_reducible refine G.joini1 ?_) | (with_reducible refine G.drew ?_) | (simp (maxSteps := 2000000) only [↓RG, RP, RB, BEq.rfl, Int.reduceEq, Int.reduceLT, Int.reduceLE, Nat.reduceEqDiff]))
    rw [wsucc (by omega)]
    have hn := hJ (k + 1, l' ++ [(su, l[k].2)], u5) ⟨hkl, by rw [List.map_append, hl', List.map_singleton, hq, List.take_succ_eq_append_getElem hkj], h5⟩ (by simp only; omega)
    simp only [List.map_append, List.map_cons, List.map_nil] at hn
    refine G.pickAll (As := [jobF (su, l[k].2), ob (BigO jobF) () l']) ?_
    rw [List.cons_append, List.cons_append, List.nil_append, ← Big_snoc]
    exact hn.sub
  · have hkl : k = l.length := by
      have : ¬ k < l.length := by simpa using h
      omega
    have hjj : l'.map (·.2) = jobs := by rw [hl', List.take_of_length_le (by omega)]
    refine Jobs_shut vj l' ?_
    rw [hjj]
    refine Now_nil ?_
    refine G.nilsl tResE ?_
    refine G.nilsl tAttE ?_
    refine Big_nil (f := pastF) ?_
    have hp : ∀ {N : List Asn} {F : World → Prop}, G w0 (ob PastR (.slice none 0 0) 0 :: N) F → G w0 (ob (BigO pastF) () [] :: sl tAttE (.slice none 0 0) [] :: N) F := fun H => by
      rw [Past_open] at H
      rw [G_swap]
      exact H [] ⟨rfl, by simp⟩
    refine hp ?_
    refine ThrR_close b ⟨me, heldSet s, jobs, -1, 0, 0, 0, none, 0, 0, [], 0, 0, false, 0⟩ vj (.pointer none) (.slice none 0 0) (.slice none 0 0) lp ?_
    refine s_thread_following (x := ⟨me, heldSet s, jobs, -1, 0, 0, 0, none, 0, 0, [], 0, 0, false, 0⟩) ⟨by show (0 : Int) ≤ -1 + 1; decide, by show (-1 : Int) + 1 ≤ _; omega, hok⟩ (by show jobs.length ≤ _; omega) ?_
    repeat' (first | (with_reducible refine G.joini0 ?_) | (with_reducible refine G.joini1 ?_) | (with_reducible refine G.drew ?_) | (simp (maxSteps := 2000000) only [↓RG, RP, RB, BEq.rfl, Int.reduceEq, Int.reduceLT, Int.reduceLE, Nat.reduceEqDiff]))
    have h2 := hK b trivial
    rw [G_swap, Jobs_open] at h2
    have h3 := h2 l hl
    exact h3.sub


/-! ### what is told of the attempts that have ended -/
theorem past_rd {l : List (TAtt × List TCell × List TCell)} {k : Nat} {q : TAtt × List TCell × List TCell} (h : l[k]? = some q) : Rd w0 (ob (BigO pastF) () l :: M) q.1.reads.v tCellE 2 q.2.1 ∧ Rd w0 (ob (BigO pastF) () l :: M) q.1.cells_.v tCellE 2 q.2.2 ∧ Rd w0 (ob (BigO pastF) () l :: M) q.1.frees.v intE 1 [] := by
  have e1 : G w0 (ob (BigO pastF) () l :: M) (fun w => SliceIs tCellE w q.1.reads.v q.2.1) := by
    rw [Big_at h, show pastF q = star (star (sl tCellE q.1.reads.v q.2.1) (sl tCellE q.1.cells_.v q.2.2)) (sl intE q.1.frees.v []) from rfl, G_star, G_star]
    exact fun w H => St.sl_is H
  have e2 : G w0 (ob (BigO pastF) () l :: M) (fun w => SliceIs tCellE w q.1.cells_.v q.2.2) := by
    rw [Big_at h, show pastF q = star (star (sl tCellE q.1.reads.v q.2.1) (sl tCellE q.1.cells_.v q.2.2)) (sl intE q.1.frees.v []) from rfl, G_star, G_star, G_swap]
    exact fun w H => St.sl_is H
  have e3 : G w0 (ob (BigO pastF) () l :: M) (fun w => SliceIs intE w q.1.frees.v []) := by
    rw [Big_at h, show pastF q = star (star (sl tCellE q.1.reads.v q.2.1) (sl tCellE q.1.cells_.v q.2.2)) (sl intE q.1.frees.v []) from rfl, G_star, G_star, G_rot3]
    exact fun w H => St.sl_is H
  exact ⟨⟨rfl, fun w H => e1 w H⟩, ⟨rfl, fun w H => e2 w H⟩, ⟨rfl, fun w H => e3 w H⟩⟩

theorem s_thread_copied {a : TAtt} {rd cl : List TCell} (r1 : Rd w0 L a.reads.v tCellE 2 rd) (r2 : Rd w0 L a.cells_.v tCellE 2 cl) (r3 : Rd w0 L a.frees.v intE 1 []) (h1 : rd.length ≤ 1000) (h2 : cl.length ≤ 1000)
    (hK : ∀ r c f : SlV, G w0 L (K (.agg (TAtt.cells { a with reads := r, cells_ := c, frees := f }).toArray))) : G w0 L (CP Tryz.prog Fn.thread_copied [.agg (TAtt.cells a).toArray] K) := by
  refine C_thread_copied ?_
  unfold S_thread_copied
  refine G.box fun q => ?_
  refine G.new fun q2 => ?_
  repeat' (first | (with_reducible refine G.joini0 ?_) | (with_reducible refine G.joini1 ?_) | (with_reducible refine G.drew ?_) | (simp (maxSteps := 2000000) only [↓RG, RP, RB, BEq.rfl, Int.reduceEq, Int.reduceLT, Int.reduceLE, Nat.reduceEqDiff]))
  refine s_slices_Clone_api_Cell_api_Cell (xs := rd) (by omega) fun u1 g1 => ?_
  refine G.isSl (v := u1) fun s1 e1 => ?_
  subst e1
  repeat' (first | (with_reducible refine G.joini0 ?_) | (with_reducible refine G.joini1 ?_) | (with_reducible refine G.drew ?_) | (simp (maxSteps := 2000000) only [↓RG, RP, RB, BEq.rfl, Int.reduceEq, Int.reduceLT, Int.reduceLE, Nat.reduceEqDiff]))
  refine s_slices_Clone_api_Cell_api_Cell (xs := cl) (by omega) fun u2 g2 => ?_
  refine G.isSl (v := u2) fun s2 e2 => ?_
  subst e2
  repeat' (first | (with_reducible refine G.joini0 ?_) | (with_reducible refine G.joini1 ?_) | (with_reducible refine G.drew ?_) | (simp (maxSteps := 2000000) only [↓RG, RP, RB, BEq.rfl, Int.reduceEq, Int.reduceLT, Int.reduceLE, Nat.reduceEqDiff]))
  refine s_slices_Clone_int_int (xs := []) (by simp) fun u3 g3 => ?_
  refine G.isSl (v := u3) fun s3 e3 => ?_
  subst e3
  repeat' (first | (with_reducible refine G.joini0 ?_) | (with_reducible refine G.joini1 ?_) | (with_reducible refine G.drew ?_) | (simp (maxSteps := 2000000) only [↓RG, RP, RB, BEq.rfl, Int.reduceEq, Int.reduceLT, Int.reduceLE, Nat.reduceEqDiff]))
  exact (hK s1 s2 s3).sub

theorem s_thread_Attempts (hs : x.state ≠ 1) (hp : x.past ≤ 1000000) [i : SelOb L ThrR b x C] (hK : ∀ u (l : List TAtt), Cells u [u] → l.length = x.past → G w0 (sl tAttE u l :: L) (K u)) : G w0 L (CP Tryz.prog Fn.thread_Thread_Attempts [ptr b 0] K) := by
  refine i.roN (ι := Value × List TAtt) (P := fun z => Cells z.1 [z.1] ∧ z.2.length = x.past) (N := fun z => sl tAttE z.1 z.2) (F' := fun z => K z.1) (fun M hK => ?_) (fun z h => hK z.1 z.2 h.1 h.2)
  refine C_thread_Thread_Attempts ?_
  unfold S_thread_Thread_Attempts
  rw [ThrR_open]
  intro vj vn vp vr lp
  refine G.take1 PastR vp ?_
  rw [Past_open]
  intro l hl
  have hlen : (l.map (·.1)).length = x.past := by simp [hl.1]
  repeat' (first | (with_reducible refine G.joini0 ?_) | (with_reducible refine G.joini1 ?_) | (with_reducible refine G.drew ?_) | (simp (maxSteps := 2000000) only [↓RG, RP, RB, BEq.rfl, Int.reduceEq, Int.reduceLT, Int.reduceLE, Nat.reduceEqDiff]))
  refine G.nilsl tAttE ?_
  refine G.loop2 (σ := Nat × List TAtt × Value) (fun z => z.2.2) (fun z => i64 z.1) (fun z => sl tAttE z.2.2 z.2.1 :: sl tAttE vp (l.map (·.1)) :: ob (BigO pastF) () l :: own b (x.cells vj vn vp vr lp) :: ob JobsR vj x.jobs :: ob NowR vn x.now :: sl tResE vr x.res :: ob (BoxR tRestE) lp [] :: M)
    (fun z => z.1 ≤ l.length ∧ z.2.1.length = z.1 ∧ Cells z.2.2 [z.2.2]) (fun z => l.length - z.1) (0, [], .slice none 0 0) rfl rfl rfl ⟨Nat.zero_le _, rfl, cells_slice⟩ ?_
  rintro ⟨k, ys, vy⟩ ⟨hk, hy, hvy⟩ J hJ
  simp only at hk hy hvy hJ ⊢
  try simp (maxSteps := 2000000) only [↓RG, RP, RB, BEq.rfl, Int.reduceEq, Int.reduceLT, Int.reduceLE, Nat.reduceEqDiff]
  refine G.cond (fun h => ?_) (fun h => ?_)
  · have hkl : k < l.length := by simpa using h
    have hx1 := hl.1
    have hx2 := hl.2 _ (List.getElem_mem hkl)
    have e : Elem (l.map (·.1)) k l[k].1 := ⟨by rw [List.getElem?_map, List.getElem?_eq_getElem hkl]; rfl⟩
    repeat' (first | (with_reducible refine G.joini0 ?_) | (with_reducible refine G.joini1 ?_) | (with_reducible refine G.drew ?_) | (simp (maxSteps := 2000000) only [↓RG, RP, RB, BEq.rfl, Int.reduceEq, Int.reduceLT, Int.reduceLE, Nat.reduceEqDiff]))
    refine G.new fun q2 => ?_
    repeat' (first | (with_reducible refine G.joini0 ?_) | (with_reducible refine G.joini1 ?_) | (with_reducible refine G.drew ?_) | (simp (maxSteps := 2000000) only [↓RG, RP, RB, BEq.rfl, Int.reduceEq, Int.reduceLT, Int.reduceLE, Nat.reduceEqDiff]))
    refine G.pickAll (As := [ob (BigO pastF) () l]) ?_
    simp only [List.cons_append, List.nil_append]
    have hr := fun N : List Asn => past_rd (w0 := w0) (M := N) (List.getElem?_eq_getElem hkl)
    refine s_thread_copied (a := l[k].1) (rd := l[k].2.1) (cl := l[k].2.2) (hr _).1 (hr _).2.1 (hr _).2.2 hx2.1 hx2.2 fun r c f => ?_
    refine G.build tAttE [{ l[k].1 with reads := r, cells_ := c, frees := f }] rfl (by decide) rfl fun y g6 => ?_
    refine G.append (E := tAttE) (xs := ys) (ys := [{ l[k].1 with reads := r, cells_ := c, frees := f }]) (by simp only [List.length_singleton]; omega) (by simp only [List.length_singleton, maxLen]; omega) fun u5 h5 => ?_
    rw [wsucc (by omega)]
    exact (hJ (k + 1, ys ++ [{ l[k].1 with reads := r, cells_ := c, frees := f }], u5) ⟨hkl, by simp [hy], h5⟩ (by simp only; omega)).sub
  · have hkl : k = l.length := by
      have : ¬ k < l.length := by simpa using h
      omega
    repeat' (first | (with_reducible refine G.joini0 ?_) | (with_reducible refine G.joini1 ?_) | (with_reducible refine G.drew ?_) | (simp (maxSteps := 2000000) only [↓RG, RP, RB, BEq.rfl, Int.reduceEq, Int.reduceLT, Int.reduceLE, Nat.reduceEqDiff, hs]))
    have hp2 : ∀ {N : List Asn} {F : World → Prop}, G w0 (ob PastR vp x.past :: N) F → G w0 (sl tAttE vp (l.map (·.1)) :: ob (BigO pastF) () l :: N) F := fun H => by
      rw [Past_open] at H
      exact H l hl
    have h2 := hK (vy, ys) ⟨hvy, by rw [hy, hkl, hl.1]⟩
    rw [G_swap, ThrR_open] at h2
    have h3 := h2 vj vn vp vr lp
    have h4 : G w0 (ob PastR vp x.past :: sl tAttE vy ys :: own b (x.cells vj vn vp vr lp) :: ob JobsR vj x.jobs :: ob NowR vn x.now :: sl tResE vr x.res :: ob (BoxR tRestE) lp [] :: M) (K vy) := h3.sub
    exact (hp2 h4).sub

end
end Go.Proofs.YtoealglbimbbmaaGreatDoor.S
