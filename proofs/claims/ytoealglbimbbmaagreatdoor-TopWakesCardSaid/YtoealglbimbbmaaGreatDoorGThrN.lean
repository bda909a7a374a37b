import Derived.Test.YtoealglbimbbmaaGreatDoorGAttT
import Derived.Test.YtoealglbimbbmaaGreatDoorLimbo
namespace Go.Proofs.YtoealglbimbbmaaGreatDoor.S
open Go Go.Proofs
set_option linter.unusedVariables false
set_option linter.unusedSimpArgs false
def BigO {α : Type} (f : α → Asn) (_ : Unit) (l : List α) : Asn := stars (l.map f)
section
variable {α : Type} {f : α → Asn} {w0 : Base} {L M : List Asn} {F : World → Prop} {l : List α} {x : α} {k : Nat}
theorem Big_at (h : l[k]? = some x) : G w0 (ob (BigO f) () l :: M) F = G w0 (f x :: ob (BigO f) () (l.eraseIdx k) :: M) F := G_of_stars (by
 show star (ob (BigO f) () l) (stars M) = star (f x) (star (ob (BigO f) () (l.eraseIdx k)) (stars M))
 rw [ob_eq (BigO f), ob_eq (BigO f), BigO, big_at _ h, ← star_as]; rfl)
theorem Big_snoc : G w0 (ob (BigO f) () (l ++ [x]) :: M) F = G w0 (f x :: ob (BigO f) () l :: M) F := by
 rw [Big_at (k := l.length) (x := x) (by simp)]
 congr 3
 simp [List.eraseIdx_append_of_length_le]
theorem Big_nil (H : G w0 (ob (BigO f) () [] :: M) F) : G w0 M F := by
 have : G w0 (ob (BigO f) () [] :: M) F = G w0 (emp :: M) F := by
  rw [ob_eq]; rfl
 rw [this, G_emp] at H
 exact H
end
abbrev jobF (p : SlV × List TIns) : Asn := sl tInsE p.1.v p.2
def JobsR (v : Value) (jobs : List (List TIns)) : Asn := exA fun l : List (SlV × List TIns) => star (pureA (l.map (·.2) = jobs)) (star (sl progE v (l.map (·.1))) (ob (BigO jobF) () l))
abbrev pastF (p : TAtt × List TCell × List TCell) : Asn := star (star (sl tCellE p.1.reads.v p.2.1) (sl tCellE p.1.cells_.v p.2.2)) (sl intE p.1.frees.v [])
def PastR (v : Value) (n : Nat) : Asn := exA fun l : List (TAtt × List TCell × List TCell) => star (pureA (l.length = n ∧ ∀ p ∈ l, p.2.1.length ≤ 1000 ∧ p.2.2.length ≤ 1000)) (star (sl tAttE v (l.map (·.1))) (ob (BigO pastF) () l))
def NowR (v : Value) : Option AttS → Asn
 | none => pureA (v = .pointer none)
 | some a => exA fun p => star (pureA (v = ptr p 0)) (ob AttR p a)
structure ThrS where
 me : Int
 s : TSet
 jobs : List (List TIns)
 job : Int
 state : Int
 tries : Int
 conf : Int
 now : Option AttS
 born : Int
 past : Nat
 res : List TRes
 by_ : Int
 since : Int
 yld : Bool
 pauses : Int
 alarm : Bool
abbrev ThrS.cells (x : ThrS) (vj vn vp vr : Value) (lp : Nat) : List Value := [i64 x.me, i64 x.s.words, i64 x.s.stripes, i64 x.s.wide, i64 x.s.threads, u64 x.s.start, i64 x.s.spins, i64 x.s.writes, i64 x.s.fuel, vj, i64 x.job, i64 x.state, .bool false, .slice none 0 0, i64 x.tries, i64 x.conf, vn, i64 x.born, .bool x.alarm, vp, vr, ptr lp 0, .slice none 0 0, i64 x.by_, u64 x.since, .bool x.yld, i64 x.pauses]
def ThrR (b : Nat) (x : ThrS) : Asn := exA fun vj => exA fun vn => exA fun vp => exA fun vr => exA fun lp => star (star (star (star (star (own b (x.cells vj vn vp vr lp)) (ob JobsR vj x.jobs)) (ob NowR vn x.now)) (ob PastR vp x.past)) (sl tResE vr x.res)) (ob (BoxR tRestE) lp [])
section
variable {w0 : Base} {L M : List Asn} {K : KV} {F : World → Prop} {C : Asn → List Asn} {b lp p : Nat} {x : ThrS} {v vj vn vp vr : Value} {a : AttS} {jobs : List (List TIns)}
theorem ThrR_open : G w0 (ob ThrR b x :: M) F = ∀ vj vn vp vr lp, G w0 (own b (x.cells vj vn vp vr lp) :: ob JobsR vj x.jobs :: ob NowR vn x.now :: ob PastR vp x.past :: sl tResE vr x.res :: ob (BoxR tRestE) lp [] :: M) F := by
 rw [ob_eq, ThrR]
 simp only [G_ex, G_star]
theorem ThrR_close (b : Nat) (x : ThrS) (vj vn vp vr : Value) (lp : Nat) [PickAll [own b (x.cells vj vn vp vr lp), ob JobsR vj x.jobs, ob NowR vn x.now, ob PastR vp x.past, sl tResE vr x.res, ob (BoxR tRestE) lp []] L M] (H : G w0 (ob ThrR b x :: M) F) : G w0 L F :=
 G.pickAll (As := [own b (x.cells vj vn vp vr lp), ob JobsR vj x.jobs, ob NowR vn x.now, ob PastR vp x.past, sl tResE vr x.res, ob (BoxR tRestE) lp []]) (by rw [ThrR_open] at H; exact H vj vn vp vr lp)
theorem Now_none : G w0 (ob NowR vn none :: M) F = (vn = .pointer none → G w0 M F) := by rw [ob_eq, NowR]; simp only [G_pure]
theorem Now_some : G w0 (ob NowR vn (some a) :: M) F = ∀ p, vn = ptr p 0 → G w0 (ob AttR p a :: M) F := by rw [ob_eq, NowR]; simp only [G_ex, G_star, G_pure]
theorem Now_shut (p : Nat) (a : AttS) [PickAll [ob AttR p a] L M] (H : G w0 (ob NowR (ptr p 0) (some a) :: M) F) : G w0 L F :=
 G.pickAll (As := [ob AttR p a]) (by rw [Now_some] at H; exact H p rfl)
theorem Now_nil (H : G w0 (ob NowR (.pointer none) none :: M) F) : G w0 M F := by rw [Now_none] at H; exact H rfl
theorem Jobs_open : G w0 (ob JobsR v jobs :: M) F = ∀ l : List (SlV × List TIns), l.map (·.2) = jobs → G w0 (sl progE v (l.map (·.1)) :: ob (BigO jobF) () l :: M) F := by
 rw [ob_eq, JobsR]
 simp only [G_ex, G_star, G_pure]
theorem Jobs_shut (v : Value) (l : List (SlV × List TIns)) [PickAll [sl progE v (l.map (·.1)), ob (BigO jobF) () l] L M] (H : G w0 (ob JobsR v (l.map (·.2)) :: M) F) : G w0 L F :=
 G.pickAll (As := [sl progE v (l.map (·.1)), ob (BigO jobF) () l]) (by rw [Jobs_open] at H; exact H l rfl)
theorem Past_open {n : Nat} : G w0 (ob PastR v n :: M) F = ∀ l : List (TAtt × List TCell × List TCell), (l.length = n ∧ ∀ p ∈ l, p.2.1.length ≤ 1000 ∧ p.2.2.length ≤ 1000) → G w0 (sl tAttE v (l.map (·.1)) :: ob (BigO pastF) () l :: M) F := by
 rw [ob_eq, PastR]
 simp only [G_ex, G_star, G_pure]
theorem job_rd {l : List (SlV × List TIns)} {k : Nat} {q : SlV × List TIns} (h : l[k]? = some q) : Rd w0 (ob (BigO jobF) () l :: M) q.1.v tInsE 5 q.2 := ⟨rfl, fun w H => by
 have e : G w0 (ob (BigO jobF) () l :: M) (fun w => SliceIs tInsE w q.1.v q.2) := by
  rw [Big_at h]
  exact fun w H => St.sl_is H
 exact e w H⟩
def thrAgain (x : ThrS) : ThrS := match x.jobs[x.job.toNat]? with
 | some p => { x with born := 0, alarm := false, now := some (attNew x.me x.s p), state := 1 }
 | none => { x with born := 0, alarm := false, now := none, state := 6 }
structure JobsOk (x : ThrS) : Prop where
 lo : 0 ≤ x.job
 hi : x.job ≤ x.jobs.length
 progs : ∀ p ∈ x.jobs, p.length ≤ 1000
theorem s_thread_again (ho : JobsOk x) [i : SelOb L ThrR b x C] (hK : G w0 (C (ob ThrR b (thrAgain x))) (K (.tuple #[]))) : G w0 L (CP Tryz.prog Fn.thread_Thread_again [ptr b 0] K) := by
 refine i.use (fun M hK => ?_) hK
 refine C_thread_Thread_again ?_
 unfold S_thread_Thread_again
 obtain ⟨h1, h2, h3⟩ := ho
 obtain ⟨k, hk⟩ := Int.eq_ofNat_of_zero_le h1
 unfold thrAgain at hK
 rw [ThrR_open]
 intro vj vn vp vr lp
 refine G.take1 JobsR vj ?_
 rw [Jobs_open]
 intro l hl
 have hlen : (l.map (·.1)).length = x.jobs.length := by rw [← hl]; simp
 have hkt : x.job.toNat = k := by omega
 rw [hkt] at hK
 by_cases hc : k = x.jobs.length
 ·have hn : x.jobs[k]? = none := by rw [hc]; simp
  rw [hn] at hK
  have ec : (x.job = (((l.map (·.1)).length : Nat) : Int)) = True := by rw [hk, hlen, hc]; simp
  repeat' (first | (with_reducible refine G.joini0 ?_) | (with_reducible refine G.joini1 ?_) | (with_reducible refine G.drew ?_) | (simp (maxSteps := 2000000) only [↓RG, RP, RB, BEq.rfl, Int.reduceEq, Int.reduceLT, Int.reduceLE, Nat.reduceEqDiff, ec]))
  refine Jobs_shut vj l ?_
  rw [hl]
  refine G.take1 NowR vn ?_
  refine G.drop ?_
  refine Now_nil ?_
  refine ThrR_close b { x with born := 0, alarm := false, now := none, state := 6 } vj (.pointer none) vp vr lp ?_
  exact hK
 ·have hlt : k < x.jobs.length := by omega
  have hll : k < l.length := by rw [← hl] at hlt; simpa using hlt
  have hn : x.jobs[k]? = some x.jobs[k] := List.getElem?_eq_getElem hlt
  have hq : (l[k]).2 = x.jobs[k] := by
   have : x.jobs[k]? = (l.map (·.2))[k]? := by rw [hl]
   rw [hn, List.getElem?_map, List.getElem?_eq_getElem hll] at this
   simpa using this.symm
  rw [hn] at hK
  have ec : (x.job = (((l.map (·.1)).length : Nat) : Int)) = False := by rw [hk, hlen]; simp only [Int.ofNat_inj, eq_iff_iff, iff_false]; exact hc
  have e : Elem (l.map (·.1)) k l[k].1 := ⟨by rw [List.getElem?_map, List.getElem?_eq_getElem hll]; rfl⟩
  have hx : IxI x.job k := ⟨hk⟩
  repeat' (first | (with_reducible refine G.joini0 ?_) | (with_reducible refine G.joini1 ?_) | (with_reducible refine G.drew ?_) | (simp (maxSteps := 2000000) only [↓RG, RP, RB, BEq.rfl, Int.reduceEq, Int.reduceLT, Int.reduceLE, Nat.reduceEqDiff, ec]))
  refine G.take1 (BigO jobF) () ?_
  have r := fun M : List Asn => job_rd (w0 := w0) (M := M) (List.getElem?_eq_getElem hll)
  have r2 := r (sl progE vj (l.map (·.1)) :: own b [i64 x.me, i64 x.s.words, i64 x.s.stripes, i64 x.s.wide, i64 x.s.threads, u64 x.s.start, i64 x.s.spins, i64 x.s.writes, i64 x.s.fuel, vj, i64 x.job, i64 x.state, .bool false, .slice none 0 0, i64 x.tries, i64 x.conf, vn, i64 0, .bool false, vp, vr, ptr lp 0, .slice none 0 0, i64 x.by_, u64 x.since, .bool x.yld, i64 x.pauses] :: ob NowR vn x.now :: ob PastR vp x.past :: sl tResE vr x.res :: ob (BoxR tRestE) lp [] :: M)
  refine s_attempt_New (s := x.s) (p := l[k].2) inferInstance (by rw [hq]; have := h3 _ (List.getElem_mem hlt); omega) fun p => ?_
  rw [hq]
  refine gg ?_
  refine Jobs_shut vj l ?_
  rw [hl]
  refine G.take1 NowR vn ?_
  refine G.drop ?_
  refine Now_shut p (attNew x.me x.s x.jobs[k]) ?_
  refine ThrR_close b { x with born := 0, alarm := false, now := some (attNew x.me x.s x.jobs[k]), state := 1 } vj (ptr p 0) vp vr lp ?_
  exact hK
end
end Go.Proofs.YtoealglbimbbmaaGreatDoor.S
namespace Go.Proofs.YtoealglbimbbmaaGreatDoor.S
open Go Go.Proofs
set_option linter.unusedVariables false
set_option linter.unusedSimpArgs false
def mostN : Nat → Int
 | 0 => 1
 | n + 1 => if 8 < 2 * mostN n then 8 else 2 * mostN n
theorem mostN_le : ∀ n : Nat, 1 ≤ mostN n ∧ mostN n ≤ 8
 | 0 => by simp [mostN]
 | n + 1 => by have := mostN_le n; unfold mostN; split <;> omega
def fewer (c : Int) : Int := if 8 < c then 8 else c
abbrev pauseOf (conf draw : Int) : Int := draw.tmod (mostN (fewer conf).toNat + 1)
abbrev thrPause (x : ThrS) (draw : Int) : ThrS := if pauseOf x.conf draw = 0 then thrAgain { x with pauses := 0, state := 3 } else { x with pauses := pauseOf x.conf draw, state := 3 }
abbrev thrRest (x : ThrS) : ThrS := if x.state = 3 then (if x.pauses = 1 then thrAgain { x with pauses := 0 } else { x with pauses := x.pauses - 1 }) else x
abbrev thrFollow (x : ThrS) : ThrS := thrAgain { x with job := x.job + 1, tries := 0, conf := 0 }
abbrev thrYield (x : ThrS) (a : TAns) (draw : Int) : ThrS := if a.err = 0 ∧ a.word ≠ 0 ∧ (x.yld = false ∨ a.word = x.since) then { x with yld := true, since := a.word } else thrPause x draw
section
variable {w0 : Base} {L M : List Asn} {K : KV} {F : World → Prop} {C : Asn → List Asn} {b lp p : Nat} {x : ThrS} {v vj vn vp vr : Value} {a : AttS} {draw : Int}
theorem s_thread_following (ho : JobsOk { x with job := x.job + 1 }) (hl : x.jobs.length ≤ 1000000) [i : SelOb L ThrR b x C] (hK : G w0 (C (ob ThrR b (thrFollow x))) (K (.tuple #[]))) : G w0 L (CP Tryz.prog Fn.thread_Thread_following [ptr b 0] K) := by
 refine i.use (fun M hK => ?_) hK
 refine C_thread_Thread_following ?_
 unfold S_thread_Thread_following
 have hb := ho.hi
 have hb2 := ho.lo
 simp only at hb hb2
 rw [ThrR_open]
 intro vj vn vp vr lp
 refine gg ?_
 rw [wi64 (n := x.job + 1) (by omega) (by omega)]
 refine ThrR_close b { x with job := x.job + 1, tries := 0, conf := 0 } vj vn vp vr lp ?_
 refine s_thread_again (x := { x with job := x.job + 1, tries := 0, conf := 0 }) ⟨ho.lo, ho.hi, ho.progs⟩ ?_
 repeat' (first | (with_reducible refine G.joini0 ?_) | (with_reducible refine G.joini1 ?_) | (with_reducible refine G.drew ?_) | (simp (maxSteps := 2000000) only [↓RG, RP, RB, BEq.rfl, Int.reduceEq, Int.reduceLT, Int.reduceLE, Nat.reduceEqDiff]))
 exact hK
theorem s_thread_pause (ho : JobsOk x) (hd : 0 ≤ draw) (hd2 : draw ≤ 255) [i : SelOb L ThrR b x C] (hK : G w0 (C (ob ThrR b (thrPause x draw))) (K (.tuple #[]))) : G w0 L (CP Tryz.prog Fn.thread_Thread_pause [ptr b 0, .int .u8 draw] K) := by
 refine i.use (fun M hK => ?_) hK
 refine C_thread_Thread_pause ?_
 unfold S_thread_Thread_pause
 rw [ThrR_open]
 intro vj vn vp vr lp
 have hf : (if (8 : Int) < x.conf then 8 else x.conf) = fewer x.conf := rfl
 have hf8 : fewer x.conf ≤ 8 := by unfold fewer; split <;> omega
 refine grf hf ?_
 refine G.loop2 (fun k : Nat => i64 (mostN k)) (fun k : Nat => i64 k) (fun k => own b (x.cells vj vn vp vr lp) :: ob JobsR vj x.jobs :: ob NowR vn x.now :: ob PastR vp x.past :: sl tResE vr x.res :: ob (BoxR tRestE) lp [] :: M) (fun k => k ≤ (fewer x.conf).toNat) (fun k => (fewer x.conf).toNat - k) 0 rfl rfl rfl (by simp) ?_
 intro k hk J hJ
 have hm := mostN_le k
 refine gr ?_
 refine G.cond (fun h => ?_) (fun h => ?_)
 ·have hk2 : k < (fewer x.conf).toNat := by simp at h; omega
  have h1 := hJ (k + 1) hk2 (by omega)
  refine gr ?_
  rw [wi64 (n := 2 * mostN k) (by omega) (by omega), wsucc (by omega)]
  exact h1
 ·have hk2 : k = (fewer x.conf).toNat := by simp at h; omega
  have ne : NeZ (mostN k + 1) := ⟨by omega⟩
  have e1 : IntKind.wrap .i64 (mostN k + 1) = mostN k + 1 := wi64 (by omega) (by omega)
  unfold thrPause at hK
  have hpo : draw.tmod (mostN k + 1) = pauseOf x.conf draw := by rw [hk2]
  have ed : IntKind.wrap .i64 draw = draw := wi64 (by omega) (by omega)
  by_cases h0 : pauseOf x.conf draw = 0
  ·rw [if_pos h0] at hK
   rw [h0] at hpo
   refine gf (an ed (an e1 hpo)) ?_
   refine ThrR_close b { x with pauses := 0, state := 3 } vj vn vp vr lp ?_
   refine s_thread_again (x := { x with pauses := 0, state := 3 }) ⟨ho.lo, ho.hi, ho.progs⟩ ?_
   repeat' (first | (with_reducible refine G.joini0 ?_) | (with_reducible refine G.joini1 ?_) | (with_reducible refine G.drew ?_) | (simp (maxSteps := 2000000) only [↓RG, RP, RB, BEq.rfl, Int.reduceEq, Int.reduceLT, Int.reduceLE, Nat.reduceEqDiff]))
   exact hK
  ·rw [if_neg h0] at hK
   refine gf (an ed (an e1 (an hpo h0))) ?_
   refine ThrR_close b { x with pauses := pauseOf x.conf draw, state := 3 } vj vn vp vr lp ?_
   exact hK
theorem s_thread_Pause (ho : JobsOk x) (hp : x.state = 3 → 1 ≤ x.pauses ∧ x.pauses ≤ 100) [i : SelOb L ThrR b x C] (hK : G w0 (C (ob ThrR b (thrRest x))) (K (.tuple #[]))) : G w0 L (CP Tryz.prog Fn.thread_Thread_Pause [ptr b 0] K) := by
 refine i.use (fun M hK => ?_) hK
 refine C_thread_Thread_Pause ?_
 unfold S_thread_Thread_Pause
 rw [ThrR_open]
 intro vj vn vp vr lp
 unfold thrRest at hK
 by_cases h3 : x.state = 3
 ·rw [if_pos h3] at hK
  have hp := hp h3
  have e : IntKind.wrap .i64 (x.pauses - 1) = x.pauses - 1 := wi64 (by omega) (by omega)
  by_cases h1 : x.pauses = 1
  ·rw [if_pos h1] at hK
   have e0 : (x.pauses - 1 = 0) = True := eq_true (by omega)
   refine gf (an (eq_true h3) (an e e0)) ?_
   refine ThrR_close b { x with pauses := x.pauses - 1 } vj vn vp vr lp ?_
   refine s_thread_again (x := { x with pauses := x.pauses - 1 }) ⟨ho.lo, ho.hi, ho.progs⟩ ?_
   rw [show x.pauses - 1 = 0 by omega]
   exact hK
  ·rw [if_neg h1, ThrR_open] at hK
   have e0 : (x.pauses - 1 = 0) = False := eq_false (by omega)
   refine gf (an (eq_true h3) (an e e0)) ?_
   exact hK vj vn vp vr lp
 ·rw [if_neg h3, ThrR_open] at hK
  refine gf h3 ?_
  exact hK vj vn vp vr lp
theorem s_thread_yield {a : TAns} (ho : JobsOk x) (hd : 0 ≤ draw) (hd2 : draw ≤ 255) [i : SelOb L ThrR b x C] (hK : G w0 (C (ob ThrR b (thrYield x a draw))) (K (.tuple #[]))) : G w0 L (CP Tryz.prog Fn.thread_Thread_yield [ptr b 0, .agg (TAns.cells a).toArray, .int .u8 draw] K) := by
 refine i.use (fun M hK => ?_) hK
 refine C_thread_Thread_yield ?_
 unfold S_thread_Thread_yield
 refine G.box fun q => ?_
 rw [G_swap]
 refine G.drew ?_
 unfold thrYield at hK
 have hpause : G w0 (ob ThrR b (thrPause x draw) :: M) (K (.tuple #[])) → G w0 (ob ThrR b x :: own q (TAns.cells a) :: M) (CP Tryz.prog Fn.thread_Thread_pause [ptr b 0, .int .u8 draw] (fun x32 => K (.tuple #[]))) := fun h => s_thread_pause (x := x) ho hd hd2 h.sub
 try simp (maxSteps := 2000000) only [fuse_and, fuse_or, fuse_step, fuse_pair, fuse_in, andP_true]
 by_cases c1 : a.err = 0
 ·by_cases c2 : a.word = 0
  ·rw [if_neg (fun h => h.2.1 c2)] at hK
   refine gf (an (eq_true c1) (eq_true c2)) ?_
   exact hpause hK
  ·rw [ThrR_open]
   intro vj vn vp vr lp
   cases hy : x.yld
   ·rw [if_pos ⟨c1, c2, .inl hy⟩, ThrR_open] at hK
    have hy2 : (!x.yld) = true := by rw [hy]; rfl
    repeat' (first | (with_reducible refine G.joini0 ?_) | (with_reducible refine G.joini1 ?_) | (with_reducible refine G.drew ?_) | (simp (maxSteps := 2000000) only [↓RG, RP, RB, BEq.rfl, Int.reduceEq, Int.reduceLT, Int.reduceLE, Nat.reduceEqDiff, eq_true c1, c2, hy2]))
    exact (hK vj vn vp vr lp).sub
   ·have hy2 : (!x.yld) = false := by rw [hy]; rfl
    by_cases c3 : a.word = x.since
    ·rw [if_pos ⟨c1, c2, .inr c3⟩, ThrR_open] at hK
     repeat' (first | (with_reducible refine G.joini0 ?_) | (with_reducible refine G.joini1 ?_) | (with_reducible refine G.drew ?_) | (simp (maxSteps := 2000000) only [↓RG, RP, RB, BEq.rfl, Int.reduceEq, Int.reduceLT, Int.reduceLE, Nat.reduceEqDiff, eq_true c1, c2, hy2, eq_true c3]))
     exact (hK vj vn vp vr lp).sub
    ·rw [if_neg (fun h => by rcases h.2.2 with h | h; rw [hy] at h; cases h; exact c3 h)] at hK
     refine gf (an (eq_true c1) (an c2 (an hy2 c3))) ?_
     refine ThrR_close b x vj vn vp vr lp ?_
     exact hpause hK
 ·rw [if_neg (fun h => c1 h.1)] at hK
  refine gf c1 ?_
  exact hpause hK
theorem s_thread_over (ho : JobsOk { x with job := x.job + 1 }) (hl : x.jobs.length ≤ 1000000) [i : SelOb L ThrR b x C] (hK : G w0 (C (ob ThrR b (thrFollow x))) (K (.tuple #[]))) : G w0 L (CP Tryz.prog Fn.thread_Thread_over [ptr b 0] K) := by
 refine i.use (fun M hK => ?_) hK
 refine C_thread_Thread_over ?_
 unfold S_thread_Thread_over
 rw [ThrR_open]
 intro vj vn vp vr lp
 refine gg ?_
 refine s_limbo_Limbo_Len (xs := []) ?_
 repeat' (first | (with_reducible refine G.joini0 ?_) | (with_reducible refine G.joini1 ?_) | (with_reducible refine G.drew ?_) | (simp (maxSteps := 2000000) only [↓RG, RP, RB, BEq.rfl, Int.reduceEq, Int.reduceLT, Int.reduceLE, Nat.reduceEqDiff, List.length_nil, Int.cast_ofNat_Int]))
 refine ThrR_close b x vj vn vp vr lp ?_
 refine s_thread_following (x := x) ho hl ?_
 repeat' (first | (with_reducible refine G.joini0 ?_) | (with_reducible refine G.joini1 ?_) | (with_reducible refine G.drew ?_) | (simp (maxSteps := 2000000) only [↓RG, RP, RB, BEq.rfl, Int.reduceEq, Int.reduceLT, Int.reduceLE, Nat.reduceEqDiff]))
 exact hK
theorem s_thread_State [i : SelOb L ThrR b x C] (hK : G w0 L (K (i64 x.state))) : G w0 L (CP Tryz.prog Fn.thread_Thread_State [ptr b 0] K) := by
 refine i.ro (fun M hK => ?_) hK
 refine C_thread_Thread_State ?_
 unfold S_thread_Thread_State
 rw [ThrR_open] at *
 intro vj vn vp vr lp
 have hK := hK vj vn vp vr lp
 refine gr ?_
 exact hK
theorem s_thread_Results (hl : x.res.length ≤ 1000000) [i : SelOb L ThrR b x C] (hK : ∀ u, Cells u [u] → G w0 (sl tResE u x.res :: L) (K u)) : G w0 L (CP Tryz.prog Fn.thread_Thread_Results [ptr b 0] K) := by
 refine i.roN (fun M hK => ?_) hK
 refine C_thread_Thread_Results ?_
 unfold S_thread_Thread_Results
 rw [ThrR_open]
 intro vj vn vp vr lp
 refine gr ?_
 refine s_slices_Clone_api_Result_api_Result (xs := x.res) hl fun u hu => ?_
 refine ThrR_close b x vj vn vp vr lp ?_
 exact (hK u hu).sub
abbrev newsL (l : List TSeen) (s ver : Int) : Bool := l.any fun z => decide (z.stripe = s) && !decide (z.version = ver)
def thrWake (x : ThrS) (s ver : Int) : ThrS := match x.now with
 | none => x
 | some a => if newsL a.rd s ver = true then (if x.state = 4 then thrAgain x else if x.state = 1 ∧ (!decide (a.state = 8) && a.blocking) = true then { x with alarm := true } else x) else x
theorem s_thread_Wake {s ver : Int} (ho : JobsOk x) (hr : ∀ a, x.now = some a → a.rd.length ≤ 1000) [i : SelOb L ThrR b x C] (hK : G w0 (C (ob ThrR b (thrWake x s ver))) (K (.tuple #[]))) : G w0 L (CP Tryz.prog Fn.thread_Thread_Wake [ptr b 0, i64 s, u64 ver] K) := by
 refine i.use (fun M hK => ?_) hK
 refine C_thread_Thread_Wake ?_
 unfold S_thread_Thread_Wake
 unfold thrWake at hK
 rw [ThrR_open]
 intro vj vn vp vr lp
 cases hn : x.now with
 | none =>
  simp only [hn] at hK
  rw [ThrR_open] at hK
  have hK := hK vj vn vp vr lp
  rw [hn] at hK
  refine G.take1 NowR vn ?_
  rw [Now_none]
  intro e
  subst e
  have hK : G w0 (ob NowR (.pointer none) none :: own b (x.cells vj (.pointer none) vp vr lp) :: ob JobsR vj x.jobs :: ob PastR vp x.past :: sl tResE vr x.res :: ob (BoxR tRestE) lp [] :: M) (K (.tuple #[])) := hK.sub
  rw [Now_none] at hK
  repeat' (first | (with_reducible refine G.joini0 ?_) | (with_reducible refine G.joini1 ?_) | (with_reducible refine G.drew ?_) | (simp (maxSteps := 2000000) only [↓RG, RP, RB, BEq.rfl, Int.reduceEq, Int.reduceLT, Int.reduceLE, Nat.reduceEqDiff]))
  exact hK rfl
 | some a =>
  have hr := hr a hn
  simp only [hn] at hK
  refine G.take1 NowR vn ?_
  rw [Now_some]
  intro p e
  subst e
  have hsame : G w0 (ob ThrR b x :: M) (K (.tuple #[])) → G w0 (ob AttR p a :: own b (x.cells vj (ptr p 0) vp vr lp) :: ob JobsR vj x.jobs :: ob PastR vp x.past :: sl tResE vr x.res :: ob (BoxR tRestE) lp [] :: M) (K (.tuple #[])) ∧ True := fun h => ⟨by
   refine Now_shut p a ?_
   rw [← hn]
   refine ThrR_close b x vj (ptr p 0) vp vr lp ?_
   exact h.sub, trivial⟩
  repeat' (first | (with_reducible refine G.joini0 ?_) | (with_reducible refine G.joini1 ?_) | (with_reducible refine G.drew ?_) | (simp (maxSteps := 2000000) only [↓RG, RP, RB, BEq.rfl, Int.reduceEq, Int.reduceLT, Int.reduceLE, Nat.reduceEqDiff]))
  refine s_attempt_Seen (x := a) (by omega) fun u hu => ?_
  repeat' (first | (with_reducible refine G.joini0 ?_) | (with_reducible refine G.joini1 ?_) | (with_reducible refine G.drew ?_) | (simp (maxSteps := 2000000) only [↓RG, RP, RB, BEq.rfl, Int.reduceEq, Int.reduceLT, Int.reduceLE, Nat.reduceEqDiff]))
  refine G.loop1 (fun k : Nat => i64 k) (fun k => sl tSeenE u a.rd :: ob AttR p a :: own b (x.cells vj (ptr p 0) vp vr lp) :: ob JobsR vj x.jobs :: ob PastR vp x.past :: sl tResE vr x.res :: ob (BoxR tRestE) lp [] :: M) (fun k => k ≤ a.rd.length ∧ newsL a.rd s ver = newsL (a.rd.drop k) s ver) (fun k => a.rd.length - k) 0 rfl rfl (by simp) ?_
  rintro k ⟨hk, hn2⟩ J hJ
  try simp (maxSteps := 2000000) only [↓RG, RP, RB, BEq.rfl, Int.reduceEq, Int.reduceLT, Int.reduceLE, Nat.reduceEqDiff]
  refine G.cond (fun h => ?_) (fun h => ?_)
  ·have hk2 : k < a.rd.length := by simp at h; omega
   have e := elem_of hk2
   rw [List.drop_eq_getElem_cons hk2, show newsL (a.rd[k] :: a.rd.drop (k + 1)) s ver = ((decide (a.rd[k].stripe = s) && !decide (a.rd[k].version = ver)) || newsL (a.rd.drop (k + 1)) s ver) from rfl] at hn2
   have hnext : (decide (a.rd[k].stripe = s) && !decide (a.rd[k].version = ver)) = false → _ := fun g => hJ (k + 1) ⟨hk2, by rw [hn2, g, Bool.false_or]⟩ (by omega)
   try simp (maxSteps := 2000000) only [fuse_and, fuse_or, fuse_step, fuse_pair, fuse_in, andP_true]
   try simp (maxSteps := 2000000) only [↓RG, RP, RB, BEq.rfl, Int.reduceEq, Int.reduceLT, Int.reduceLE, Nat.reduceEqDiff]
   refine G.new fun q2 => ?_
   by_cases c1 : a.rd[k].stripe = s
   ·by_cases c2 : a.rd[k].version = ver
    ·have hnext := hnext (by simp [c2])
     repeat' (first | (with_reducible refine G.joini0 ?_) | (with_reducible refine G.joini1 ?_) | (with_reducible refine G.drew ?_) | (simp (maxSteps := 2000000) only [↓RG, RP, RB, BEq.rfl, Int.reduceEq, Int.reduceLT, Int.reduceLE, Nat.reduceEqDiff, eq_true c1, eq_true c2]))
     rw [wsucc (by omega)]
     exact hnext.sub
    ·rw [hn2, decide_eq_true c1, decide_eq_false c2] at hK
     simp only [Bool.not_false, Bool.and_true, Bool.true_or, if_true] at hK
     by_cases c4 : x.state = 4
     ·rw [if_pos c4] at hK
      repeat' (first | (with_reducible refine G.joini0 ?_) | (with_reducible refine G.joini1 ?_) | (with_reducible refine G.drew ?_) | (simp (maxSteps := 2000000) only [↓RG, RP, RB, BEq.rfl, Int.reduceEq, Int.reduceLT, Int.reduceLE, Nat.reduceEqDiff, eq_true c1, c2, eq_true c4]))
      refine Now_shut p a ?_
      rw [← hn]
      refine ThrR_close b x vj (ptr p 0) vp vr lp ?_
      refine s_thread_again (x := x) ho ?_
      repeat' (first | (with_reducible refine G.joini0 ?_) | (with_reducible refine G.joini1 ?_) | (with_reducible refine G.drew ?_) | (simp (maxSteps := 2000000) only [↓RG, RP, RB, BEq.rfl, Int.reduceEq, Int.reduceLT, Int.reduceLE, Nat.reduceEqDiff]))
      exact hK.sub
     ·rw [if_neg c4] at hK
      by_cases c3 : x.state = 1
      ·repeat' (first | (with_reducible refine G.joini0 ?_) | (with_reducible refine G.joini1 ?_) | (with_reducible refine G.drew ?_) | (simp (maxSteps := 2000000) only [↓RG, RP, RB, BEq.rfl, Int.reduceEq, Int.reduceLT, Int.reduceLE, Nat.reduceEqDiff, eq_true c1, c2, c4, eq_true c3]))
       refine s_attempt_Blocking (x := a) ?_
       cases hb : (!decide (a.state = 8) && a.blocking)
       ·rw [if_neg (by rw [hb]; simp)] at hK
        repeat' (first | (with_reducible refine G.joini0 ?_) | (with_reducible refine G.joini1 ?_) | (with_reducible refine G.drew ?_) | (simp (maxSteps := 2000000) only [↓RG, RP, RB, BEq.rfl, Int.reduceEq, Int.reduceLT, Int.reduceLE, Nat.reduceEqDiff]))
        exact ((hsame hK).1).sub
       ·rw [if_pos ⟨c3, hb⟩] at hK
        repeat' (first | (with_reducible refine G.joini0 ?_) | (with_reducible refine G.joini1 ?_) | (with_reducible refine G.drew ?_) | (simp (maxSteps := 2000000) only [↓RG, RP, RB, BEq.rfl, Int.reduceEq, Int.reduceLT, Int.reduceLE, Nat.reduceEqDiff]))
        refine Now_shut p a ?_
        rw [← hn]
        refine ThrR_close b { x with alarm := true } vj (ptr p 0) vp vr lp ?_
        rw [← hn] at hK
        exact hK.sub
      ·rw [if_neg (fun g => c3 g.1)] at hK
       repeat' (first | (with_reducible refine G.joini0 ?_) | (with_reducible refine G.joini1 ?_) | (with_reducible refine G.drew ?_) | (simp (maxSteps := 2000000) only [↓RG, RP, RB, BEq.rfl, Int.reduceEq, Int.reduceLT, Int.reduceLE, Nat.reduceEqDiff, eq_true c1, c2, c4, c3]))
       exact ((hsame hK).1).sub
   ·have hnext := hnext (by simp [c1])
    repeat' (first | (with_reducible refine G.joini0 ?_) | (with_reducible refine G.joini1 ?_) | (with_reducible refine G.drew ?_) | (simp (maxSteps := 2000000) only [↓RG, RP, RB, BEq.rfl, Int.reduceEq, Int.reduceLT, Int.reduceLE, Nat.reduceEqDiff, c1]))
    rw [wsucc (by omega)]
    exact hnext.sub
  ·have hk2 : k = a.rd.length := by
    have : ¬ k < a.rd.length := by simpa using h
    omega
   have e0 : newsL a.rd s ver = false := by rw [hn2, hk2, List.drop_length]; rfl
   rw [e0, if_neg (by decide)] at hK
   try simp (maxSteps := 2000000) only [↓RG, RP, RB, BEq.rfl, Int.reduceEq, Int.reduceLT, Int.reduceLE, Nat.reduceEqDiff]
   exact ((hsame hK).1).sub
end
end Go.Proofs.YtoealglbimbbmaaGreatDoor.S
namespace Go.Proofs.YtoealglbimbbmaaGreatDoor.S
open Go Go.Proofs
set_option linter.unusedVariables false
set_option linter.unusedSimpArgs false
structure GoneOk (a : AttS) : Prop where
 gone : a.state = 8
 known : a.v.k.length ≤ 1000
 cells : a.v.l.cells.length ≤ 1000
 frees : a.v.l.frees = []
 items : a.fin = 2 → TextOk a.run.items
abbrev textOf (a : AttS) : ByteArray := if a.fin = 2 then textV a.run.items else ⟨#[]⟩
theorem GoneOk.wr {a : AttS} (h : GoneOk a) : a.wr = false := by unfold AttS.wr; rw [h.gone]; simp
theorem GoneOk.done {a : AttS} (h : GoneOk a) : a.done = decide (a.fin = 2) := by
 unfold AttS.done
 rw [if_pos h.gone, h.wr, Bool.or_false]
abbrev toldOf (x : ThrS) (a : AttS) (pick : Int) (r c f : SlV) : TAtt := ⟨x.me, x.job, x.tries, false, a.fin, a.err, a.beg, a.stamp, x.born, pick, r, c, f, textOf a⟩
section
variable {w0 : Base} {L M : List Asn} {K : KV} {F : World → Prop} {C : Asn → List Asn} {b lp p : Nat} {x : ThrS} {v vj vn vp vr : Value} {a : AttS} {draw pick : Int}
theorem G_buildX {zero r : List Value} {ps : List (Nat × Nat × Value)} (h : buildL zero ps = some r) : G w0 L (buildW zero ps K) = G w0 L (K (.agg r.toArray)) := by
 congr 1
 funext w
 simp [buildW, h]
theorem s_thread_told (hg : GoneOk a)
  (hK : ∀ r c f : SlV, G w0 (sl tCellE r.v a.v.k :: sl tCellE c.v (if a.fin = 2 then a.v.l.cells else []) :: sl intE f.v [] :: own b (x.cells vj (ptr p 0) vp vr lp) :: ob AttR p a :: M) (K (.agg (TAtt.cells (toldOf x a pick r c f)).toArray))) :
  G w0 (own b (x.cells vj (ptr p 0) vp vr lp) :: ob AttR p a :: M) (CP Tryz.prog Fn.thread_Thread_told [ptr b 0, i64 pick] K) := by
 refine C_thread_Thread_told ?_
 unfold S_thread_Thread_told
 have h8 := hg.gone
 have hd : (if a.fin = 2 then a.v.l.cells else []) = (if a.done then a.v.l.cells else []) := by rw [hg.done]; by_cases h : a.fin = 2 <;> simp [h]
 have ht : (if a.done then textV a.run.items else ⟨#[]⟩ : ByteArray) = textOf a := by unfold textOf; rw [hg.done]; by_cases h : a.fin = 2 <;> simp [h]
 refine G.new fun q => ?_
 refine gg ?_
 refine s_attempt_Begin (x := a) ?_
 refine gg ?_
 refine s_attempt_End (x := a) ?_
 rw [if_pos h8]
 repeat' (first | (with_reducible refine G.joini0 ?_) | (with_reducible refine G.joini1 ?_) | (with_reducible refine G.drew ?_) | (simp (maxSteps := 2000000) only [↓RG, RP, RB, BEq.rfl, Int.reduceEq, Int.reduceLT, Int.reduceLE, Nat.reduceEqDiff]))
 refine s_attempt_Writing (x := a) ?_
 rw [hg.wr]
 repeat' (first | (with_reducible refine G.joini0 ?_) | (with_reducible refine G.joini1 ?_) | (with_reducible refine G.drew ?_) | (simp (maxSteps := 2000000) only [↓RG, RP, RB, BEq.rfl, Int.reduceEq, Int.reduceLT, Int.reduceLE, Nat.reduceEqDiff]))
 refine s_attempt_Err (x := a) ?_
 rw [if_pos h8]
 refine gg ?_
 refine s_attempt_Stamp (x := a) ?_
 refine gg ?_
 refine s_attempt_Reads (x := a) (by have := hg.known; omega) fun u hu => ?_
 refine G.isSl (v := u) fun r hr => ?_
 subst hr
 refine gg ?_
 refine s_attempt_Cells (x := a) fun c => ?_
 rw [← hd]
 refine gg ?_
 refine s_attempt_Frees (x := a) hg.frees fun f => ?_
 refine gg ?_
 refine s_attempt_Slate (x := a) (fun h => hg.items (by rw [hg.done] at h; simpa using h)) ?_
 rw [ht]
 refine gg ?_
 rw [G_buildX (r := TAtt.cells (toldOf x a pick r c f)) rfl]
 refine gg ?_
 exact (hK r c f).sub
abbrev thrEnded (x : ThrS) (a : AttS) (draw : Int) : ThrS :=
 if a.fin = 5 then
  (if 0 ≤ a.by_ ∧ a.by_ < x.s.threads then { x with past := x.past + 1, tries := IntKind.wrap .i64 (x.tries + 1), conf := IntKind.wrap .i64 (x.conf + 1), state := 2, by_ := a.by_, yld := false }
   else thrPause { x with past := x.past + 1, tries := IntKind.wrap .i64 (x.tries + 1), conf := IntKind.wrap .i64 (x.conf + 1) } draw)
 else if a.fin = 3 then
  (if x.alarm = true then thrAgain { x with past := x.past + 1, tries := IntKind.wrap .i64 (x.tries + 1) }
   else { x with past := x.past + 1, tries := IntKind.wrap .i64 (x.tries + 1), state := 4 })
 else thrFollow { x with past := x.past + 1, tries := IntKind.wrap .i64 (x.tries + 1), res := x.res ++ [⟨a.fin, a.err, textOf a, a.stamp⟩] }
theorem Past_push {n : Nat} (u : Value) (l : List (TAtt × List TCell × List TCell)) (e : TAtt) (r c : List TCell) [PickAll [sl tAttE u (l.map (·.1) ++ [e]), ob (BigO pastF) () l, sl tCellE e.reads.v r, sl tCellE e.cells_.v c, sl intE e.frees.v []] L M]
  (hl : l.length = n ∧ ∀ p ∈ l, p.2.1.length ≤ 1000 ∧ p.2.2.length ≤ 1000) (hr : r.length ≤ 1000) (hc : c.length ≤ 1000) (H : G w0 (ob PastR u (n + 1) :: M) F) : G w0 L F :=
 G.pickAll (As := [sl tAttE u (l.map (·.1) ++ [e]), ob (BigO pastF) () l, sl tCellE e.reads.v r, sl tCellE e.cells_.v c, sl intE e.frees.v []]) (by
  rw [Past_open] at H
  have h := H (l ++ [(e, r, c)]) ⟨by simp [hl.1], fun p hp => by
   rcases List.mem_append.1 hp with hp | hp
   ·exact hl.2 p hp
   ·rw [List.mem_singleton.1 hp]; exact ⟨hr, hc⟩⟩
  rw [List.map_append, List.map_cons, List.map_nil, G_swap, Big_snoc, show pastF (e, r, c) = star (star (sl tCellE e.reads.v r) (sl tCellE e.cells_.v c)) (sl intE e.frees.v []) from rfl, G_star, G_star] at h
  show G w0 (sl tAttE u (l.map (·.1) ++ [e]) :: ob (BigO pastF) () l :: sl tCellE e.reads.v r :: sl tCellE e.cells_.v c :: sl intE e.frees.v [] :: M) F
  exact h.sub)
theorem s_thread_ended (hn : x.now = some a) (hg : GoneOk a) (hp : x.past ≤ 1000000) (hr : x.res.length ≤ 1000000) (ho : JobsOk x) (ho2 : a.fin ≠ 5 → a.fin ≠ 3 → JobsOk { x with job := x.job + 1 }) (hl : x.jobs.length ≤ 1000000) (hd : 0 ≤ draw) (hd2 : draw ≤ 255) [i : SelOb L ThrR b x C]
  (hK : G w0 (C (ob ThrR b (thrEnded x a draw))) (K (.tuple #[]))) : G w0 L (CP Tryz.prog Fn.thread_Thread_ended [ptr b 0, .int .u8 draw, i64 pick] K) := by
 refine i.use (fun M hK => ?_) hK
 refine C_thread_Thread_ended ?_
 unfold S_thread_Thread_ended
 have h8 := hg.gone
 rw [ThrR_open]
 intro vj vn vp vr lp
 refine G.take1 NowR vn ?_
 rw [hn, Now_some]
 intro p e
 subst e
 repeat' (first | (with_reducible refine G.joini0 ?_) | (with_reducible refine G.joini1 ?_) | (with_reducible refine G.drew ?_) | (simp (maxSteps := 2000000) only [↓RG, RP, RB, BEq.rfl, Int.reduceEq, Int.reduceLT, Int.reduceLE, Nat.reduceEqDiff]))
 refine G.pickAll (As := [own b (x.cells vj (ptr p 0) vp vr lp), ob AttR p a]) ?_
 simp only [List.cons_append, List.nil_append]
 refine s_thread_told (x := x) (pick := pick) hg fun r c f => ?_
 refine G.take1 PastR vp ?_
 rw [Past_open]
 intro l hll
 have hlen : (l.map (·.1)).length = x.past := by simp [hll.1]
 repeat' (first | (with_reducible refine G.joini0 ?_) | (with_reducible refine G.joini1 ?_) | (with_reducible refine G.drew ?_) | (simp (maxSteps := 2000000) only [↓RG, RP, RB, BEq.rfl, Int.reduceEq, Int.reduceLT, Int.reduceLE, Nat.reduceEqDiff]))
 refine G.build tAttE [toldOf x a pick r c f] rfl (by decide) rfl fun u6 h6 => ?_
 repeat' (first | (with_reducible refine G.joini0 ?_) | (with_reducible refine G.joini1 ?_) | (with_reducible refine G.drew ?_) | (simp (maxSteps := 2000000) only [↓RG, RP, RB, BEq.rfl, Int.reduceEq, Int.reduceLT, Int.reduceLE, Nat.reduceEqDiff]))
 refine G.append (E := tAttE) (xs := l.map (fun z : TAtt × List TCell × List TCell => z.1)) (ys := [toldOf x a pick r c f]) (by simp only [hlen, List.length_singleton]; omega) (by simp only [hlen, List.length_singleton, maxLen]; omega) fun u5 h5 => ?_
 repeat' (first | (with_reducible refine G.joini0 ?_) | (with_reducible refine G.joini1 ?_) | (with_reducible refine G.drew ?_) | (simp (maxSteps := 2000000) only [↓RG, RP, RB, BEq.rfl, Int.reduceEq, Int.reduceLT, Int.reduceLE, Nat.reduceEqDiff]))
 refine s_attempt_End (x := a) ?_
 rw [if_pos h8]
 have hcl : (if a.fin = 2 then a.v.l.cells else []).length ≤ 1000 := by split; exact hg.cells; simp
 unfold thrEnded at hK
 by_cases c5 : a.fin = 5
 ·rw [if_pos c5] at hK
  repeat' (first | (with_reducible refine G.joini0 ?_) | (with_reducible refine G.joini1 ?_) | (with_reducible refine G.drew ?_) | (simp (maxSteps := 2000000) only [↓RG, RP, RB, BEq.rfl, Int.reduceEq, Int.reduceLT, Int.reduceLE, Nat.reduceEqDiff, eq_true c5]))
  refine s_attempt_By (x := a) ?_
  rw [if_pos h8]
  by_cases cb : 0 ≤ a.by_ ∧ a.by_ < x.s.threads
  ·rw [if_pos cb] at hK
   try simp (maxSteps := 2000000) only [fuse_and, fuse_or, fuse_step, fuse_pair, fuse_in, andP_true]
   repeat' (first | (with_reducible refine G.joini0 ?_) | (with_reducible refine G.joini1 ?_) | (with_reducible refine G.drew ?_) | (simp (maxSteps := 2000000) only [↓RG, RP, RB, BEq.rfl, Int.reduceEq, Int.reduceLT, Int.reduceLE, Nat.reduceEqDiff, eq_true cb.1]))
   refine s_attempt_By (x := a) ?_
   rw [if_pos h8]
   repeat' (first | (with_reducible refine G.joini0 ?_) | (with_reducible refine G.joini1 ?_) | (with_reducible refine G.drew ?_) | (simp (maxSteps := 2000000) only [↓RG, RP, RB, BEq.rfl, Int.reduceEq, Int.reduceLT, Int.reduceLE, Nat.reduceEqDiff, eq_true cb.2]))
   refine s_attempt_By (x := a) ?_
   rw [if_pos h8]
   repeat' (first | (with_reducible refine G.joini0 ?_) | (with_reducible refine G.joini1 ?_) | (with_reducible refine G.drew ?_) | (simp (maxSteps := 2000000) only [↓RG, RP, RB, BEq.rfl, Int.reduceEq, Int.reduceLT, Int.reduceLE, Nat.reduceEqDiff]))
   refine Past_push u5 l (toldOf x a pick r c f) a.v.k (if a.fin = 2 then a.v.l.cells else []) hll hg.known hcl ?_
   refine Now_shut p a ?_
   rw [← hn]
   refine ThrR_close b { x with past := x.past + 1, tries := IntKind.wrap .i64 (x.tries + 1), conf := IntKind.wrap .i64 (x.conf + 1), state := 2, by_ := a.by_, yld := false } vj (ptr p 0) u5 vr lp ?_
   exact hK.sub
  ·rw [if_neg cb] at hK
   have hp2 : G w0 (own b (ThrS.cells { x with past := x.past + 1, tries := IntKind.wrap .i64 (x.tries + 1), conf := IntKind.wrap .i64 (x.conf + 1) } vj (ptr p 0) u5 vr lp) :: sl tAttE u5 (l.map (·.1) ++ [toldOf x a pick r c f]) :: ob (BigO pastF) () l :: sl tCellE r.v a.v.k :: sl tCellE c.v (if a.fin = 2 then a.v.l.cells else []) :: sl intE f.v [] :: ob AttR p a :: ob JobsR vj x.jobs :: sl tResE vr x.res :: ob (BoxR tRestE) lp [] :: M)
     (CP Tryz.prog Fn.thread_Thread_pause [ptr b 0, .int .u8 draw] (fun x55 => K (.tuple #[]))) := by
    refine Past_push u5 l (toldOf x a pick r c f) a.v.k (if a.fin = 2 then a.v.l.cells else []) hll hg.known hcl ?_
    refine Now_shut p a ?_
    rw [← hn]
    refine ThrR_close b { x with past := x.past + 1, tries := IntKind.wrap .i64 (x.tries + 1), conf := IntKind.wrap .i64 (x.conf + 1) } vj (ptr p 0) u5 vr lp ?_
    refine s_thread_pause (x := { x with past := x.past + 1, tries := IntKind.wrap .i64 (x.tries + 1), conf := IntKind.wrap .i64 (x.conf + 1) }) ⟨ho.lo, ho.hi, ho.progs⟩ hd hd2 ?_
    exact hK.sub
   try simp (maxSteps := 2000000) only [fuse_and, fuse_or, fuse_step, fuse_pair, fuse_in, andP_true]
   by_cases cb0 : 0 ≤ a.by_
   ·have cb1 : ¬ a.by_ < x.s.threads := fun h => cb ⟨cb0, h⟩
    repeat' (first | (with_reducible refine G.joini0 ?_) | (with_reducible refine G.joini1 ?_) | (with_reducible refine G.drew ?_) | (simp (maxSteps := 2000000) only [↓RG, RP, RB, BEq.rfl, Int.reduceEq, Int.reduceLT, Int.reduceLE, Nat.reduceEqDiff, eq_true cb0]))
    refine s_attempt_By (x := a) ?_
    rw [if_pos h8]
    repeat' (first | (with_reducible refine G.joini0 ?_) | (with_reducible refine G.joini1 ?_) | (with_reducible refine G.drew ?_) | (simp (maxSteps := 2000000) only [↓RG, RP, RB, BEq.rfl, Int.reduceEq, Int.reduceLT, Int.reduceLE, Nat.reduceEqDiff, cb1]))
    exact hp2.sub
   ·repeat' (first | (with_reducible refine G.joini0 ?_) | (with_reducible refine G.joini1 ?_) | (with_reducible refine G.drew ?_) | (simp (maxSteps := 2000000) only [↓RG, RP, RB, BEq.rfl, Int.reduceEq, Int.reduceLT, Int.reduceLE, Nat.reduceEqDiff, cb0]))
    exact hp2.sub
 ·rw [if_neg c5] at hK
  repeat' (first | (with_reducible refine G.joini0 ?_) | (with_reducible refine G.joini1 ?_) | (with_reducible refine G.drew ?_) | (simp (maxSteps := 2000000) only [↓RG, RP, RB, BEq.rfl, Int.reduceEq, Int.reduceLT, Int.reduceLE, Nat.reduceEqDiff, c5]))
  refine s_attempt_End (x := a) ?_
  rw [if_pos h8]
  by_cases h3 : a.fin = 3
  ·rw [if_pos h3] at hK
   have hp2 : ∀ J, G w0 (ob ThrR b { x with past := x.past + 1, tries := IntKind.wrap .i64 (x.tries + 1) } :: M) J → G w0 (own b (ThrS.cells { x with past := x.past + 1, tries := IntKind.wrap .i64 (x.tries + 1) } vj (ptr p 0) u5 vr lp) :: sl tAttE u5 (l.map (·.1) ++ [toldOf x a pick r c f]) :: ob (BigO pastF) () l :: sl tCellE r.v a.v.k :: sl tCellE c.v (if a.fin = 2 then a.v.l.cells else []) :: sl intE f.v [] :: ob AttR p a :: ob JobsR vj x.jobs :: sl tResE vr x.res :: ob (BoxR tRestE) lp [] :: M) J := fun J h => by
    refine Past_push u5 l (toldOf x a pick r c f) a.v.k (if a.fin = 2 then a.v.l.cells else []) hll hg.known hcl ?_
    refine Now_shut p a ?_
    rw [← hn]
    refine ThrR_close b { x with past := x.past + 1, tries := IntKind.wrap .i64 (x.tries + 1) } vj (ptr p 0) u5 vr lp ?_
    exact h.sub
   repeat' (first | (with_reducible refine G.joini0 ?_) | (with_reducible refine G.joini1 ?_) | (with_reducible refine G.drew ?_) | (simp (maxSteps := 2000000) only [↓RG, RP, RB, BEq.rfl, Int.reduceEq, Int.reduceLT, Int.reduceLE, Nat.reduceEqDiff, eq_true h3]))
   refine G.cond (fun ha => ?_) (fun ha => ?_)
   rotate_left
   ·rw [if_neg (by rw [ha]; decide)] at hK
    repeat' (first | (with_reducible refine G.joini0 ?_) | (with_reducible refine G.joini1 ?_) | (with_reducible refine G.drew ?_) | (simp (maxSteps := 2000000) only [↓RG, RP, RB, BEq.rfl, Int.reduceEq, Int.reduceLT, Int.reduceLE, Nat.reduceEqDiff]))
    refine Past_push u5 l (toldOf x a pick r c f) a.v.k (if a.fin = 2 then a.v.l.cells else []) hll hg.known hcl ?_
    refine Now_shut p a ?_
    rw [← hn]
    refine ThrR_close b { x with past := x.past + 1, tries := IntKind.wrap .i64 (x.tries + 1), state := 4 } vj (ptr p 0) u5 vr lp ?_
    exact hK.sub
   ·rw [if_pos ha] at hK
    refine G.sub (hp2 _ ?_)
    refine s_thread_again (x := { x with past := x.past + 1, tries := IntKind.wrap .i64 (x.tries + 1) }) ⟨ho.lo, ho.hi, ho.progs⟩ ?_
    repeat' (first | (with_reducible refine G.joini0 ?_) | (with_reducible refine G.joini1 ?_) | (with_reducible refine G.drew ?_) | (simp (maxSteps := 2000000) only [↓RG, RP, RB, BEq.rfl, Int.reduceEq, Int.reduceLT, Int.reduceLE, Nat.reduceEqDiff]))
    exact hK.sub
  rw [if_neg h3] at hK
  repeat' (first | (with_reducible refine G.joini0 ?_) | (with_reducible refine G.joini1 ?_) | (with_reducible refine G.drew ?_) | (simp (maxSteps := 2000000) only [↓RG, RP, RB, BEq.rfl, Int.reduceEq, Int.reduceLT, Int.reduceLE, Nat.reduceEqDiff, h3]))
  refine s_attempt_End (x := a) ?_
  rw [if_pos h8]
  repeat' (first | (with_reducible refine G.joini0 ?_) | (with_reducible refine G.joini1 ?_) | (with_reducible refine G.drew ?_) | (simp (maxSteps := 2000000) only [↓RG, RP, RB, BEq.rfl, Int.reduceEq, Int.reduceLT, Int.reduceLE, Nat.reduceEqDiff]))
  refine s_attempt_Err (x := a) ?_
  rw [if_pos h8]
  repeat' (first | (with_reducible refine G.joini0 ?_) | (with_reducible refine G.joini1 ?_) | (with_reducible refine G.drew ?_) | (simp (maxSteps := 2000000) only [↓RG, RP, RB, BEq.rfl, Int.reduceEq, Int.reduceLT, Int.reduceLE, Nat.reduceEqDiff]))
  refine s_attempt_Slate (x := a) (fun h => hg.items (by rw [hg.done] at h; simpa using h)) ?_
  have ht : (if a.done then textV a.run.items else ⟨#[]⟩ : ByteArray) = textOf a := by unfold textOf; rw [hg.done]; by_cases h : a.fin = 2 <;> simp [h]
  rw [ht]
  repeat' (first | (with_reducible refine G.joini0 ?_) | (with_reducible refine G.joini1 ?_) | (with_reducible refine G.drew ?_) | (simp (maxSteps := 2000000) only [↓RG, RP, RB, BEq.rfl, Int.reduceEq, Int.reduceLT, Int.reduceLE, Nat.reduceEqDiff]))
  refine s_attempt_Stamp (x := a) ?_
  repeat' (first | (with_reducible refine G.joini0 ?_) | (with_reducible refine G.joini1 ?_) | (with_reducible refine G.drew ?_) | (simp (maxSteps := 2000000) only [↓RG, RP, RB, BEq.rfl, Int.reduceEq, Int.reduceLT, Int.reduceLE, Nat.reduceEqDiff]))
  refine G.build tResE [⟨a.fin, a.err, textOf a, a.stamp⟩] rfl (by decide) rfl fun u7 h7 => ?_
  repeat' (first | (with_reducible refine G.joini0 ?_) | (with_reducible refine G.joini1 ?_) | (with_reducible refine G.drew ?_) | (simp (maxSteps := 2000000) only [↓RG, RP, RB, BEq.rfl, Int.reduceEq, Int.reduceLT, Int.reduceLE, Nat.reduceEqDiff]))
  refine G.append (E := tResE) (xs := x.res) (ys := [⟨a.fin, a.err, textOf a, a.stamp⟩]) (by simp only [List.length_singleton]; omega) (by simp only [List.length_singleton, maxLen]; omega) fun u8 h8' => ?_
  repeat' (first | (with_reducible refine G.joini0 ?_) | (with_reducible refine G.joini1 ?_) | (with_reducible refine G.drew ?_) | (simp (maxSteps := 2000000) only [↓RG, RP, RB, BEq.rfl, Int.reduceEq, Int.reduceLT, Int.reduceLE, Nat.reduceEqDiff]))
  refine s_attempt_Stamp (x := a) ?_
  repeat' (first | (with_reducible refine G.joini0 ?_) | (with_reducible refine G.joini1 ?_) | (with_reducible refine G.drew ?_) | (simp (maxSteps := 2000000) only [↓RG, RP, RB, BEq.rfl, Int.reduceEq, Int.reduceLT, Int.reduceLE, Nat.reduceEqDiff]))
  refine s_attempt_Frees (x := a) hg.frees fun f2 => ?_
  repeat' (first | (with_reducible refine G.joini0 ?_) | (with_reducible refine G.joini1 ?_) | (with_reducible refine G.drew ?_) | (simp (maxSteps := 2000000) only [↓RG, RP, RB, BEq.rfl, Int.reduceEq, Int.reduceLT, Int.reduceLE, Nat.reduceEqDiff]))
  refine s_limbo_Limbo_Add (xs := []) (bs := []) (by simp) ?_
  simp only [List.map_nil, List.append_nil]
  repeat' (first | (with_reducible refine G.joini0 ?_) | (with_reducible refine G.joini1 ?_) | (with_reducible refine G.drew ?_) | (simp (maxSteps := 2000000) only [↓RG, RP, RB, BEq.rfl, Int.reduceEq, Int.reduceLT, Int.reduceLE, Nat.reduceEqDiff]))
  refine Past_push u5 l (toldOf x a pick r c f) a.v.k (if a.fin = 2 then a.v.l.cells else []) hll hg.known hcl ?_
  refine Now_shut p a ?_
  rw [← hn]
  refine ThrR_close b { x with past := x.past + 1, tries := IntKind.wrap .i64 (x.tries + 1), res := x.res ++ [⟨a.fin, a.err, textOf a, a.stamp⟩] } vj (ptr p 0) u5 u8 lp ?_
  refine s_thread_over (x := { x with past := x.past + 1, tries := IntKind.wrap .i64 (x.tries + 1), res := x.res ++ [⟨a.fin, a.err, textOf a, a.stamp⟩] }) ⟨(ho2 c5 h3).lo, (ho2 c5 h3).hi, (ho2 c5 h3).progs⟩ hl ?_
  repeat' (first | (with_reducible refine G.joini0 ?_) | (with_reducible refine G.joini1 ?_) | (with_reducible refine G.drew ?_) | (simp (maxSteps := 2000000) only [↓RG, RP, RB, BEq.rfl, Int.reduceEq, Int.reduceLT, Int.reduceLE, Nat.reduceEqDiff]))
  exact hK.sub
end
end Go.Proofs.YtoealglbimbbmaaGreatDoor.S
namespace Go.Proofs.YtoealglbimbbmaaGreatDoor.S
open Go Go.Proofs
set_option linter.unusedVariables false
set_option linter.unusedSimpArgs false
abbrev thrNext (x : ThrS) : TOp × Bool := if x.state = 1 then (match x.now with | some a => attNext a | none => (zeroOp, false)) else if x.state = 2 then (⟨8, x.by_, 0, 0, zeroLock, zeroLock⟩, true) else (zeroOp, false)
abbrev thrHeard (x : ThrS) (a a' : AttS) (draw pick : Int) : ThrS :=
 if a'.state = 8 ∧ a'.fin ≠ 0 then thrEnded { x with now := some a', born := if a'.begun && !a.begun then pick else x.born } a' draw else { x with now := some a', born := if a'.begun && !a.begun then pick else x.born }
abbrev thrTell (x : ThrS) (a : TAns) (draw pick : Int) : ThrS :=
 if x.state = 1 then (match x.now with | some at_ => thrHeard x at_ (attTell at_ a) draw pick | none => x)
 else if x.state = 2 then thrYield x a draw else x
structure HearOk (x : ThrS) (a : TAns) : Prop where
 jobs : JobsOk x
 few : x.jobs.length ≤ 1000000
 past : x.past ≤ 1000000
 res : x.res.length ≤ 1000000
 run : x.state = 1 → ∃ at_, x.now = some at_ ∧ TellOk at_ a ∧ ((attTell at_ a).state = 8 → GoneOk (attTell at_ a) ∧ x.job < x.jobs.length)
section
variable {w0 : Base} {L M : List Asn} {K : KV} {F : World → Prop} {C : Asn → List Asn} {b lp p : Nat} {x : ThrS} {v vj vn vp vr : Value} {draw pick : Int}
theorem s_thread_Next (h5 : x.state ≠ 5) (ho : x.state = 1 → ∃ a, x.now = some a ∧ (a.state ≠ 0 → a.state ≠ 1 → a.state ≠ 2 → a.state ≠ 7 → a.state ≠ 8 → a.inn.ok)) [i : SelOb L ThrR b x C]
  (hK : G w0 L (K (.tuple #[.agg (TOp.cells (thrNext x).1).toArray, .bool (thrNext x).2]))) : G w0 L (CP Tryz.prog Fn.thread_Thread_Next [ptr b 0] K) := by
 refine i.ro (fun M hK => ?_) hK
 refine C_thread_Thread_Next ?_
 unfold S_thread_Thread_Next
 refine G.new fun q => ?_
 rw [G_swap]
 rw [ThrR_open] at *
 intro vj vn vp vr lp
 have hK := hK vj vn vp vr lp
 unfold thrNext at hK
 by_cases s1 : x.state = 1
 ·obtain ⟨a, hn, ha⟩ := ho s1
  simp only [s1, if_true, hn] at hK
  have hK : G w0 (ob NowR vn (some a) :: own b (x.cells vj vn vp vr lp) :: ob JobsR vj x.jobs :: ob PastR vp x.past :: sl tResE vr x.res :: ob (BoxR tRestE) lp [] :: M) (K (.tuple #[.agg (TOp.cells (attNext a).1).toArray, .bool (attNext a).2])) := hK.sub
  rw [Now_some] at hK
  refine G.take1 NowR vn ?_
  rw [hn, Now_some]
  intro p e
  have hK := hK p e
  subst e
  refine gf (eq_true s1) ?_
  refine s_attempt_Next (x := a) ha ?_
  refine gg ?_
  exact hK.sub
 ·rw [if_neg s1] at hK
  by_cases s2 : x.state = 2
  ·rw [if_pos s2] at hK
   refine gf (an s1 (eq_true s2)) ?_
   exact hK.sub
  ·rw [if_neg s2] at hK
   refine gf (an s1 (an s2 h5)) ?_
   exact hK.sub
theorem s_thread_Tell {a : TAns} (h5 : x.state ≠ 5) (ho : HearOk x a) (hd : 0 ≤ draw) (hd2 : draw ≤ 255) [i : SelOb L ThrR b x C]
  (hK : G w0 (C (ob ThrR b (thrTell x a draw pick))) (K (.tuple #[]))) : G w0 L (CP Tryz.prog Fn.thread_Thread_Tell [ptr b 0, .agg (TAns.cells a).toArray, .int .u8 draw, i64 pick] K) := by
 refine i.use (fun M hK => ?_) hK
 refine C_thread_Thread_Tell ?_
 unfold S_thread_Thread_Tell
 refine G.box fun q => ?_
 rw [G_swap, ThrR_open]
 intro vj vn vp vr lp
 unfold thrTell at hK
 by_cases s1 : x.state = 1
 ·obtain ⟨at_, hn, ht, hg⟩ := ho.run s1
  rw [if_pos s1] at hK
  simp only [hn] at hK
  unfold thrHeard at hK
  refine G.take1 NowR vn ?_
  rw [hn, Now_some]
  intro p e
  subst e
  repeat' (first | (with_reducible refine G.joini0 ?_) | (with_reducible refine G.joini1 ?_) | (with_reducible refine G.drew ?_) | (simp (maxSteps := 2000000) only [↓RG, RP, RB, BEq.rfl, Int.reduceEq, Int.reduceLT, Int.reduceLE, Nat.reduceEqDiff, eq_true s1]))
  refine s_attempt_Begin (x := at_) ?_
  repeat' (first | (with_reducible refine G.joini0 ?_) | (with_reducible refine G.joini1 ?_) | (with_reducible refine G.drew ?_) | (simp (maxSteps := 2000000) only [↓RG, RP, RB, BEq.rfl, Int.reduceEq, Int.reduceLT, Int.reduceLE, Nat.reduceEqDiff]))
  refine s_attempt_Tell (x := at_) (a := a) ht ?_
  generalize hat : attTell at_ a = a2 at hK hg
  repeat' (first | (with_reducible refine G.joini0 ?_) | (with_reducible refine G.joini1 ?_) | (with_reducible refine G.drew ?_) | (simp (maxSteps := 2000000) only [↓RG, RP, RB, BEq.rfl, Int.reduceEq, Int.reduceLT, Int.reduceLE, Nat.reduceEqDiff]))
  refine s_attempt_Begin (x := a2) ?_
  try simp (maxSteps := 2000000) only [fuse_and, fuse_or, fuse_step, fuse_pair, fuse_in, andP_true]
  try simp (maxSteps := 2000000) only [↓RG, RP, RB, BEq.rfl, Int.reduceEq, Int.reduceLT, Int.reduceLE, Nat.reduceEqDiff]
  refine G.joini0 ?_
  have hfin : ∀ bn : Int, bn = (if a2.begun && !at_.begun then pick else x.born) → G w0 (ob AttR p a2 :: own b (ThrS.cells { x with now := some a2, born := bn } vj (ptr p 0) vp vr lp) :: ob JobsR vj x.jobs :: ob PastR vp x.past :: sl tResE vr x.res :: ob (BoxR tRestE) lp [] :: own q (TAns.cells a) :: M)
    (CP Tryz.prog Fn.attempt_Attempt_End [ptr p 0] (fun x29 => binIntW .neq x29 (i64 0) (fun x30 => joinW0 (K (.tuple #[])) (fun j3 => condP x30 (CP Tryz.prog Fn.thread_Thread_ended [ptr b 0, .int .u8 draw, i64 pick] (fun x31 => j3)) j3)))) := by
   intro bn hbn
   rw [← hbn] at hK
   repeat' (first | (with_reducible refine G.joini0 ?_) | (with_reducible refine G.joini1 ?_) | (with_reducible refine G.drew ?_) | (simp (maxSteps := 2000000) only [↓RG, RP, RB, BEq.rfl, Int.reduceEq, Int.reduceLT, Int.reduceLE, Nat.reduceEqDiff]))
   refine s_attempt_End (x := a2) ?_
   by_cases c8 : a2.state = 8
   ·obtain ⟨g1, g3⟩ := hg c8
    rw [if_pos c8]
    by_cases cf : a2.fin = 0
    ·rw [if_neg (fun h => h.2 cf)] at hK
     rw [cf]
     repeat' (first | (with_reducible refine G.joini0 ?_) | (with_reducible refine G.joini1 ?_) | (with_reducible refine G.drew ?_) | (simp (maxSteps := 2000000) only [↓RG, RP, RB, BEq.rfl, Int.reduceEq, Int.reduceLT, Int.reduceLE, Nat.reduceEqDiff]))
     refine Now_shut p a2 ?_
     refine ThrR_close b { x with now := some a2, born := bn } vj (ptr p 0) vp vr lp ?_
     exact hK.sub
    ·rw [if_pos ⟨c8, cf⟩] at hK
     repeat' (first | (with_reducible refine G.joini0 ?_) | (with_reducible refine G.joini1 ?_) | (with_reducible refine G.drew ?_) | (simp (maxSteps := 2000000) only [↓RG, RP, RB, BEq.rfl, Int.reduceEq, Int.reduceLT, Int.reduceLE, Nat.reduceEqDiff, cf]))
     refine Now_shut p a2 ?_
     refine ThrR_close b { x with now := some a2, born := bn } vj (ptr p 0) vp vr lp ?_
     have hj := ho.jobs
     refine s_thread_ended (x := { x with now := some a2, born := bn }) (a := a2) rfl g1 ho.past ho.res ⟨hj.lo, hj.hi, hj.progs⟩ (fun _ _ => ⟨by have := hj.lo; simp only; omega, by simp only; omega, hj.progs⟩) ho.few hd hd2 ?_
     repeat' (first | (with_reducible refine G.joini0 ?_) | (with_reducible refine G.joini1 ?_) | (with_reducible refine G.drew ?_) | (simp (maxSteps := 2000000) only [↓RG, RP, RB, BEq.rfl, Int.reduceEq, Int.reduceLT, Int.reduceLE, Nat.reduceEqDiff]))
     exact hK.sub
   ·rw [if_neg c8]
    rw [if_neg (fun h => c8 h.1)] at hK
    repeat' (first | (with_reducible refine G.joini0 ?_) | (with_reducible refine G.joini1 ?_) | (with_reducible refine G.drew ?_) | (simp (maxSteps := 2000000) only [↓RG, RP, RB, BEq.rfl, Int.reduceEq, Int.reduceLT, Int.reduceLE, Nat.reduceEqDiff]))
    refine Now_shut p a2 ?_
    refine ThrR_close b { x with now := some a2, born := bn } vj (ptr p 0) vp vr lp ?_
    exact hK.sub
  cases hb : (a2.begun && !at_.begun)
  ·have h := hfin x.born (by rw [hb]; simp)
   repeat' (first | (with_reducible refine G.joini0 ?_) | (with_reducible refine G.joini1 ?_) | (with_reducible refine G.drew ?_) | (simp (maxSteps := 2000000) only [↓RG, RP, RB, BEq.rfl, Int.reduceEq, Int.reduceLT, Int.reduceLE, Nat.reduceEqDiff]))
   exact h
  ·have h := hfin pick (by rw [hb]; simp)
   repeat' (first | (with_reducible refine G.joini0 ?_) | (with_reducible refine G.joini1 ?_) | (with_reducible refine G.drew ?_) | (simp (maxSteps := 2000000) only [↓RG, RP, RB, BEq.rfl, Int.reduceEq, Int.reduceLT, Int.reduceLE, Nat.reduceEqDiff]))
   exact h
 ·rw [if_neg s1] at hK
  by_cases s2 : x.state = 2
  ·rw [if_pos s2] at hK
   repeat' (first | (with_reducible refine G.joini0 ?_) | (with_reducible refine G.joini1 ?_) | (with_reducible refine G.drew ?_) | (simp (maxSteps := 2000000) only [↓RG, RP, RB, BEq.rfl, Int.reduceEq, Int.reduceLT, Int.reduceLE, Nat.reduceEqDiff, s1, eq_true s2]))
   refine ThrR_close b x vj vn vp vr lp ?_
   refine s_thread_yield (x := x) (a := a) ho.jobs hd hd2 ?_
   repeat' (first | (with_reducible refine G.joini0 ?_) | (with_reducible refine G.joini1 ?_) | (with_reducible refine G.drew ?_) | (simp (maxSteps := 2000000) only [↓RG, RP, RB, BEq.rfl, Int.reduceEq, Int.reduceLT, Int.reduceLE, Nat.reduceEqDiff]))
   exact hK.sub
  ·rw [if_neg s2, ThrR_open] at hK
   repeat' (first | (with_reducible refine G.joini0 ?_) | (with_reducible refine G.joini1 ?_) | (with_reducible refine G.drew ?_) | (simp (maxSteps := 2000000) only [↓RG, RP, RB, BEq.rfl, Int.reduceEq, Int.reduceLT, Int.reduceLE, Nat.reduceEqDiff, s1, s2, h5]))
   exact (hK vj vn vp vr lp).sub
end
end Go.Proofs.YtoealglbimbbmaaGreatDoor.S
namespace Go.Proofs.YtoealglbimbbmaaGreatDoor.S
open Go Go.Proofs
set_option linter.unusedVariables false
set_option linter.unusedSimpArgs false
theorem G.sliceAll {α : Type} {E : Enc α} {w0 : Base} {L : List Asn} {C : Asn → List Asn} {v : Value} {xs : List α} {K : KV} {sz : Nat} [s : SelSl L v E xs C] (h : G w0 L (K v)) : G w0 L (sliceW sz v none (some (i64 xs.length)) K) := fun w H => by
 obtain ⟨M, e1, e2⟩ := sl_front (w0 := w0) s.sel
 have hw := h w H
 rcases ((e1 w).1 H).sl_cases with ⟨rfl, rfl, H2⟩ | ⟨c, cap, rest, rfl, g2, g3, H2⟩
 ·simpa [sliceW, bound] using hw
 ·simp only [sliceW, bound]
  refine ⟨by omega, by omega, by omega, ?_⟩
  have e : (if cap = ((0 : Nat) : Int).toNat then some (⟨c, 0, none⟩ : Addr) else Option.map (fun x => x.add (((0 : Nat) : Int).toNat * sz)) (some (⟨c, 0, none⟩ : Addr))) = some ⟨c, 0, none⟩ := by
   split
   ·rfl
   ·simp [Addr.add]
  have e2 : ((xs.length : Int)).toNat - ((0 : Nat) : Int).toNat = xs.length := by simp
  have e3 : cap - ((0 : Nat) : Int).toNat = cap := by simp
  rw [e, e2, e3]
  exact hw
abbrev thrNew (me : Int) (s : TSet) (jobs : List (List TIns)) : ThrS := thrFollow ⟨me, heldSet s, jobs, -1, 0, 0, 0, none, 0, 0, [], 0, 0, false, 0, false⟩
section
variable {w0 : Base} {L M : List Asn} {K : KV} {F : World → Prop} {C : Asn → List Asn} {b lp p : Nat} {x : ThrS} {v vj vn vp vr : Value}
theorem heldSet_held (s : TSet) : heldSet (heldSet s) = heldSet s := by
 unfold heldSet heldShape
 simp only [held_held (show (32 : Int) ≤ 256 by decide), held_held (show (1 : Int) ≤ 16 by decide), held_held (show (1 : Int) ≤ 4 by decide), held_held (show (0 : Int) ≤ 4 by decide), held_held (show (0 : Int) ≤ 96 by decide), held_held (show (0 : Int) ≤ 400 by decide)]
 congr 1
 split <;> simp_all
theorem s_thread_New {me : Int} {s : TSet} {jobs : List (List TIns)} (hm0 : 0 ≤ me) (hm1 : me < (heldSet s).threads) (h6 : jobs.length ≤ 6) (hok : ∀ p ∈ jobs, p.length ≤ 1000) [i : SelOb L JobsR v jobs C]
  (hK : ∀ b, G w0 (ob ThrR b (thrNew me s jobs) :: L) (K (ptr b 0))) : G w0 L (CP Tryz.prog Fn.thread_New [i64 me, .agg (TSet.cells s).toArray, v] K) := by
 refine i.roN (P := fun _ => True) (N := fun b => ob ThrR b (thrNew me s jobs)) (F' := fun b => K (ptr b 0)) (fun M hK => ?_) (fun b _ => hK b)
 refine C_thread_New ?_
 unfold S_thread_New
 rw [Jobs_open]
 intro l hl
 have hlen : l.length = jobs.length := by rw [← hl]; simp
 have ht4 : (heldSet s).threads ≤ 4 := (held_le (n := s.threads) (lo := 1) (hi := 4) (by omega)).2
 refine G.box fun q => ?_
 refine gg ?_
 refine s_attempt_Held ?_
 repeat' (first | (with_reducible refine G.joini0 ?_) | (with_reducible refine G.joini1 ?_) | (with_reducible refine G.drew ?_) | (simp (maxSteps := 2000000) only [↓RG, RP, RB, BEq.rfl, Int.reduceEq, Int.reduceLT, Int.reduceLE, Nat.reduceEqDiff]))
 rw [wi64 (n := (heldSet s).threads - 1) (by omega) (by omega)]
 have e1 : (if (heldSet s).threads - 1 < me then (heldSet s).threads - 1 else me) = me := by rw [if_neg (by omega)]
 have e2 : (if me > 0 then me else 0) = me := by split <;> omega
 refine gf (an e1 e2) ?_
 refine s_limbo_New fun lp => ?_
 refine gg ?_
 refine G.box fun b => ?_
 have hc : (if ((6 : Int) < ((l.map (·.1)).length : Int)) then 6 else ((l.map (·.1)).length : Int)) = ((l.map (·.1)).length : Int) := by rw [if_neg (by simp; omega)]
 refine gf hc ?_
 refine G.sliceAll ?_
 refine gg ?_
 refine G.nilsl progE ?_
 refine Big_nil (f := jobF) ?_
 refine G.loop1 (σ := Nat × List (SlV × List TIns) × Value) (fun s => i64 s.1) (fun z => ob (BigO jobF) () z.2.1 :: sl progE z.2.2 (z.2.1.map (·.1)) :: own b (ThrS.cells ⟨me, heldSet s, jobs, -1, 0, 0, 0, none, 0, 0, [], 0, 0, false, 0, false⟩ z.2.2 (.pointer none) (.slice none 0 0) (.slice none 0 0) lp) :: ob (BoxR tRestE) lp [] :: own q (TSet.cells (heldSet s)) :: sl progE v (l.map (·.1)) :: ob (BigO jobF) () l :: M)
  (fun z => z.1 ≤ l.length ∧ z.2.1.map (·.2) = jobs.take z.1 ∧ Cells z.2.2 [z.2.2]) (fun z => l.length - z.1) (0, [], .slice none 0 0) rfl rfl ⟨Nat.zero_le _, rfl, cells_slice⟩ ?_
 rintro ⟨k, l', vj⟩ ⟨hk, hl', hvj⟩ J hJ
 simp only at hk hl' hvj hJ ⊢
 have hlen' : l'.length = k := by
  have := congrArg List.length hl'
  simp only [List.length_map, List.length_take] at this
  omega
 refine gr ?_
 refine G.cond (fun h => ?_) (fun h => ?_)
 ·have hkl : k < l.length := by simpa using h
  have hkj : k < jobs.length := by omega
  have e : Elem (l.map (·.1)) k l[k].1 := ⟨by rw [List.getElem?_map, List.getElem?_eq_getElem hkl]; rfl⟩
  have hq : l[k].2 = jobs[k] := by simp only [← hl, List.getElem_map]
  have hpo := hok _ (List.getElem_mem hkj)
  refine gg ?_
  refine G.new fun q2 => ?_
  repeat' (first | (with_reducible refine G.joini0 ?_) | (with_reducible refine G.joini1 ?_) | (with_reducible refine G.drew ?_) | (simp (maxSteps := 2000000) only [↓RG, RP, RB, BEq.rfl, Int.reduceEq, Int.reduceLT, Int.reduceLE, Nat.reduceEqDiff]))
  refine G.pickAll (As := [ob (BigO jobF) () l]) ?_
  simp only [List.cons_append, List.nil_append]
  refine s_slices_Clone_api_Ins_api_Ins (r := job_rd (List.getElem?_eq_getElem hkl)) (by rw [hq]; omega) fun u hu => ?_
  refine G.isSl (v := u) fun su hsu => ?_
  subst hsu
  refine gg ?_
  refine G.build progE [su] rfl (by decide) rfl fun y hy => ?_
  refine gg ?_
  refine G.append (E := progE) (xs := l'.map (fun z : SlV × List TIns => z.1)) (ys := [su]) (by simp only [List.length_map, List.length_singleton]; omega) (by simp only [List.length_map, List.length_singleton, maxLen]; omega) fun u5 h5 => ?_
  refine gg ?_
  rw [wsucc (by omega)]
  have hn := hJ (k + 1, l' ++ [(su, l[k].2)], u5) ⟨hkl, by rw [List.map_append, hl', List.map_singleton, hq, List.take_succ_eq_append_getElem hkj], h5⟩ (by simp only; omega)
  simp only [List.map_append, List.map_cons, List.map_nil] at hn
  refine G.pickAll (As := [jobF (su, l[k].2), ob (BigO jobF) () l']) ?_
  rw [List.cons_append, List.cons_append, List.nil_append, ← Big_snoc]
  exact hn.sub
 ·have hkl : k = l.length := by
   have : ¬ k < l.length := by simpa using h
   omega
  have hjj : l'.map (·.2) = jobs := by rw [hl', List.take_of_length_le (by omega)]
  refine Jobs_shut vj l' ?_
  rw [hjj]
  refine Now_nil ?_
  refine G.nilsl tResE ?_
  refine G.nilsl tAttE ?_
  refine Big_nil (f := pastF) ?_
  have hp : ∀ {N : List Asn} {F : World → Prop}, G w0 (ob PastR (.slice none 0 0) 0 :: N) F → G w0 (ob (BigO pastF) () [] :: sl tAttE (.slice none 0 0) [] :: N) F := fun H => by
   rw [Past_open] at H
   rw [G_swap]
   exact H [] ⟨rfl, by simp⟩
  refine hp ?_
  refine ThrR_close b ⟨me, heldSet s, jobs, -1, 0, 0, 0, none, 0, 0, [], 0, 0, false, 0, false⟩ vj (.pointer none) (.slice none 0 0) (.slice none 0 0) lp ?_
  refine s_thread_following (x := ⟨me, heldSet s, jobs, -1, 0, 0, 0, none, 0, 0, [], 0, 0, false, 0, false⟩) ⟨by show (0 : Int) ≤ -1 + 1; decide, by show (-1 : Int) + 1 ≤ _; omega, hok⟩ (by show jobs.length ≤ _; omega) ?_
  repeat' (first | (with_reducible refine G.joini0 ?_) | (with_reducible refine G.joini1 ?_) | (with_reducible refine G.drew ?_) | (simp (maxSteps := 2000000) only [↓RG, RP, RB, BEq.rfl, Int.reduceEq, Int.reduceLT, Int.reduceLE, Nat.reduceEqDiff]))
  have h2 := hK b trivial
  rw [G_swap, Jobs_open] at h2
  have h3 := h2 l hl
  exact h3.sub
theorem past_rd {l : List (TAtt × List TCell × List TCell)} {k : Nat} {q : TAtt × List TCell × List TCell} (h : l[k]? = some q) : Rd w0 (ob (BigO pastF) () l :: M) q.1.reads.v tCellE 2 q.2.1 ∧ Rd w0 (ob (BigO pastF) () l :: M) q.1.cells_.v tCellE 2 q.2.2 ∧ Rd w0 (ob (BigO pastF) () l :: M) q.1.frees.v intE 1 [] := by
 have e1 : G w0 (ob (BigO pastF) () l :: M) (fun w => SliceIs tCellE w q.1.reads.v q.2.1) := by
  rw [Big_at h, show pastF q = star (star (sl tCellE q.1.reads.v q.2.1) (sl tCellE q.1.cells_.v q.2.2)) (sl intE q.1.frees.v []) from rfl, G_star, G_star]
  exact fun w H => St.sl_is H
 have e2 : G w0 (ob (BigO pastF) () l :: M) (fun w => SliceIs tCellE w q.1.cells_.v q.2.2) := by
  rw [Big_at h, show pastF q = star (star (sl tCellE q.1.reads.v q.2.1) (sl tCellE q.1.cells_.v q.2.2)) (sl intE q.1.frees.v []) from rfl, G_star, G_star, G_swap]
  exact fun w H => St.sl_is H
 have e3 : G w0 (ob (BigO pastF) () l :: M) (fun w => SliceIs intE w q.1.frees.v []) := by
  rw [Big_at h, show pastF q = star (star (sl tCellE q.1.reads.v q.2.1) (sl tCellE q.1.cells_.v q.2.2)) (sl intE q.1.frees.v []) from rfl, G_star, G_star, G_rot3]
  exact fun w H => St.sl_is H
 exact ⟨⟨rfl, fun w H => e1 w H⟩, ⟨rfl, fun w H => e2 w H⟩, ⟨rfl, fun w H => e3 w H⟩⟩
theorem s_thread_copied {a : TAtt} {rd cl : List TCell} (r1 : Rd w0 L a.reads.v tCellE 2 rd) (r2 : Rd w0 L a.cells_.v tCellE 2 cl) (r3 : Rd w0 L a.frees.v intE 1 []) (h1 : rd.length ≤ 1000) (h2 : cl.length ≤ 1000)
  (hK : ∀ r c f : SlV, G w0 L (K (.agg (TAtt.cells { a with reads := r, cells_ := c, frees := f }).toArray))) : G w0 L (CP Tryz.prog Fn.thread_copied [.agg (TAtt.cells a).toArray] K) := by
 refine C_thread_copied ?_
 unfold S_thread_copied
 refine G.box fun q => ?_
 refine G.new fun q2 => ?_
 repeat' (first | (with_reducible refine G.joini0 ?_) | (with_reducible refine G.joini1 ?_) | (with_reducible refine G.drew ?_) | (simp (maxSteps := 2000000) only [↓RG, RP, RB, BEq.rfl, Int.reduceEq, Int.reduceLT, Int.reduceLE, Nat.reduceEqDiff]))
 refine s_slices_Clone_api_Cell_api_Cell (xs := rd) (by omega) fun u1 g1 => ?_
 refine G.isSl (v := u1) fun s1 e1 => ?_
 subst e1
 refine gg ?_
 refine s_slices_Clone_api_Cell_api_Cell (xs := cl) (by omega) fun u2 g2 => ?_
 refine G.isSl (v := u2) fun s2 e2 => ?_
 subst e2
 refine gg ?_
 refine s_slices_Clone_int_int (xs := []) (by simp) fun u3 g3 => ?_
 refine G.isSl (v := u3) fun s3 e3 => ?_
 subst e3
 refine gg ?_
 exact (hK s1 s2 s3).sub
theorem s_thread_Attempts (hs : x.state ≠ 1) (hp : x.past ≤ 1000000) [i : SelOb L ThrR b x C] (hK : ∀ u (l : List TAtt), Cells u [u] → l.length = x.past → G w0 (sl tAttE u l :: L) (K u)) : G w0 L (CP Tryz.prog Fn.thread_Thread_Attempts [ptr b 0] K) := by
 refine i.roN (ι := Value × List TAtt) (P := fun z => Cells z.1 [z.1] ∧ z.2.length = x.past) (N := fun z => sl tAttE z.1 z.2) (F' := fun z => K z.1) (fun M hK => ?_) (fun z h => hK z.1 z.2 h.1 h.2)
 refine C_thread_Thread_Attempts ?_
 unfold S_thread_Thread_Attempts
 rw [ThrR_open]
 intro vj vn vp vr lp
 refine G.take1 PastR vp ?_
 rw [Past_open]
 intro l hl
 have hlen : (l.map (·.1)).length = x.past := by simp [hl.1]
 refine gg ?_
 refine G.nilsl tAttE ?_
 refine G.loop2 (σ := Nat × List TAtt × Value) (fun z => z.2.2) (fun z => i64 z.1) (fun z => sl tAttE z.2.2 z.2.1 :: sl tAttE vp (l.map (·.1)) :: ob (BigO pastF) () l :: own b (x.cells vj vn vp vr lp) :: ob JobsR vj x.jobs :: ob NowR vn x.now :: sl tResE vr x.res :: ob (BoxR tRestE) lp [] :: M)
  (fun z => z.1 ≤ l.length ∧ z.2.1.length = z.1 ∧ Cells z.2.2 [z.2.2]) (fun z => l.length - z.1) (0, [], .slice none 0 0) rfl rfl rfl ⟨Nat.zero_le _, rfl, cells_slice⟩ ?_
 rintro ⟨k, ys, vy⟩ ⟨hk, hy, hvy⟩ J hJ
 simp only at hk hy hvy hJ ⊢
 refine gr ?_
 refine G.cond (fun h => ?_) (fun h => ?_)
 ·have hkl : k < l.length := by simpa using h
  have hx1 := hl.1
  have hx2 := hl.2 _ (List.getElem_mem hkl)
  have e : Elem (l.map (·.1)) k l[k].1 := ⟨by rw [List.getElem?_map, List.getElem?_eq_getElem hkl]; rfl⟩
  refine gg ?_
  refine G.new fun q2 => ?_
  refine gg ?_
  refine G.pickAll (As := [ob (BigO pastF) () l]) ?_
  simp only [List.cons_append, List.nil_append]
  have hr := fun N : List Asn => past_rd (w0 := w0) (M := N) (List.getElem?_eq_getElem hkl)
  refine s_thread_copied (a := l[k].1) (rd := l[k].2.1) (cl := l[k].2.2) (hr _).1 (hr _).2.1 (hr _).2.2 hx2.1 hx2.2 fun r c f => ?_
  refine G.build tAttE [{ l[k].1 with reads := r, cells_ := c, frees := f }] rfl (by decide) rfl fun y g6 => ?_
  refine G.append (E := tAttE) (xs := ys) (ys := [{ l[k].1 with reads := r, cells_ := c, frees := f }]) (by simp only [List.length_singleton]; omega) (by simp only [List.length_singleton, maxLen]; omega) fun u5 h5 => ?_
  rw [wsucc (by omega)]
  exact (hJ (k + 1, ys ++ [{ l[k].1 with reads := r, cells_ := c, frees := f }], u5) ⟨hkl, by simp [hy], h5⟩ (by simp only; omega)).sub
 ·have hkl : k = l.length := by
   have : ¬ k < l.length := by simpa using h
   omega
  refine gf hs ?_
  have hp2 : ∀ {N : List Asn} {F : World → Prop}, G w0 (ob PastR vp x.past :: N) F → G w0 (sl tAttE vp (l.map (·.1)) :: ob (BigO pastF) () l :: N) F := fun H => by
   rw [Past_open] at H
   exact H l hl
  have h2 := hK (vy, ys) ⟨hvy, by rw [hy, hkl, hl.1]⟩
  rw [G_swap, ThrR_open] at h2
  have h3 := h2 vj vn vp vr lp
  have h4 : G w0 (ob PastR vp x.past :: sl tAttE vy ys :: own b (x.cells vj vn vp vr lp) :: ob JobsR vj x.jobs :: ob NowR vn x.now :: sl tResE vr x.res :: ob (BoxR tRestE) lp [] :: M) (K vy) := h3.sub
  exact (hp2 h4).sub
end
end Go.Proofs.YtoealglbimbbmaaGreatDoor.S
