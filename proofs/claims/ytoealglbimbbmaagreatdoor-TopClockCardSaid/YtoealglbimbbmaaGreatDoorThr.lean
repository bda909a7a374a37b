/-
  A THREAD OF JOBS (package thread): its object; the next job, a pause.
-/
import Derived.Test.YtoealglbimbbmaaGreatDoorAttT
import Derived.Test.YtoealglbimbbmaaGreatDoorLimbo
namespace Go.Proofs.YtoealglbimbbmaaGreatDoor.S
open Go Go.Proofs
set_option linter.unusedVariables false
set_option linter.unusedSimpArgs false

/-! ### many pieces -/
def BigO {α : Type} (f : α → Asn) (_ : Unit) (l : List α) : Asn := stars (l.map f)
section
variable {α : Type} {f : α → Asn} {w0 : Base} {L M : List Asn} {F : World → Prop} {l : List α} {x : α} {k : Nat}
theorem Big_at (h : l[k]? = some x) : G w0 (ob (BigO f) () l :: M) F = G w0 (f x :: ob (BigO f) () (l.eraseIdx k) :: M) F := G_of_stars (by
  show star (ob (BigO f) () l) (stars M) = star (f x) (star (ob (BigO f) () (l.eraseIdx k)) (stars M))
  rw [ob_eq (BigO f), ob_eq (BigO f), BigO, big_at _ h, ← star_as]; rfl)
theorem Big_snoc : G w0 (ob (BigO f) () (l ++ [x]) :: M) F = G w0 (f x :: ob (BigO f) () l :: M) F := by
  rw [Big_at (k := l.length) (x := x) (by simp)]
  congr 3
  simp [List.eraseIdx_append_of_length_le]
theorem Big_nil (H : G w0 (ob (BigO f) () [] :: M) F) : G w0 M F := by
  have : G w0 (ob (BigO f) () [] :: M) F = G w0 (emp :: M) F := by
    rw [ob_eq]; rfl
  rw [this, G_emp] at H
  exact H
end

/-! ### jobs, what is told of attempts that have ended -/
abbrev jobF (p : SlV × List TIns) : Asn := sl tInsE p.1.v p.2
def JobsR (v : Value) (jobs : List (List TIns)) : Asn := exA fun l : List (SlV × List TIns) => star (pureA (l.map (·.2) = jobs)) (star (sl progE v (l.map (·.1))) (ob (BigO jobF) () l))
abbrev pastF (p : TAtt × List TCell × List TCell) : Asn := star (star (sl tCellE p.1.reads.v p.2.1) (sl tCellE p.1.cells_.v p.2.2)) (sl intE p.1.frees.v [])
def PastR (v : Value) (n : Nat) : Asn := exA fun l : List (TAtt × List TCell × List TCell) => star (pureA (l.length = n ∧ ∀ p ∈ l, p.2.1.length ≤ 1000 ∧ p.2.2.length ≤ 1000)) (star (sl tAttE v (l.map (·.1))) (ob (BigO pastF) () l))
def NowR (v : Value) : Option AttS → Asn
  | none => pureA (v = .pointer none)
  | some a => exA fun p => star (pureA (v = ptr p 0)) (ob AttR p a)

structure ThrS where
  me : Int
  s : TSet
  jobs : List (List TIns)
  job : Int
  state : Int
  tries : Int
  conf : Int
  now : Option AttS
  born : Int
  past : Nat
  res : List TRes
  by_ : Int
  since : Int
  yld : Bool
  pauses : Int

abbrev ThrS.cells (x : ThrS) (vj vn vp vr : Value) (lp : Nat) : List Value := [i64 x.me, i64 x.s.words, i64 x.s.stripes, i64 x.s.wide, i64 x.s.threads, u64 x.s.start, i64 x.s.spins, i64 x.s.writes, i64 x.s.fuel, vj, i64 x.job, i64 x.state, .bool false, .slice none 0 0, i64 x.tries, i64 x.conf, vn, i64 x.born, .bool false, vp, vr, ptr lp 0, .slice none 0 0, i64 x.by_, u64 x.since, .bool x.yld, i64 x.pauses]
def ThrR (b : Nat) (x : ThrS) : Asn := exA fun vj => exA fun vn => exA fun vp => exA fun vr => exA fun lp => star (star (star (star (star (own b (x.cells vj vn vp vr lp)) (ob JobsR vj x.jobs)) (ob NowR vn x.now)) (ob PastR vp x.past)) (sl tResE vr x.res)) (ob (BoxR tRestE) lp [])

section
variable {w0 : Base} {L M : List Asn} {K : KV} {F : World → Prop} {C : Asn → List Asn} {b lp p : Nat} {x : ThrS} {v vj vn vp vr : Value} {a : AttS} {jobs : List (List TIns)}

theorem ThrR_open : G w0 (ob ThrR b x :: M) F = ∀ vj vn vp vr lp, G w0 (own b (x.cells vj vn vp vr lp) :: ob JobsR vj x.jobs :: ob NowR vn x.now :: ob PastR vp x.past :: sl tResE vr x.res :: ob (BoxR tRestE) lp [] :: M) F := by
  rw [ob_eq, ThrR]
  simp only [G_ex, G_star]
theorem ThrR_close (b : Nat) (x : ThrS) (vj vn vp vr : Value) (lp : Nat) [PickAll [own b (x.cells vj vn vp vr lp), ob JobsR vj x.jobs, ob NowR vn x.now, ob PastR vp x.past, sl tResE vr x.res, ob (BoxR tRestE) lp []] L M] (H : G w0 (ob ThrR b x :: M) F) : G w0 L F :=
  G.pickAll (As := [own b (x.cells vj vn vp vr lp), ob JobsR vj x.jobs, ob NowR vn x.now, ob PastR vp x.past, sl tResE vr x.res, ob (BoxR tRestE) lp []]) (by rw [ThrR_open] at H; exact H vj vn vp vr lp)
theorem Now_none : G w0 (ob NowR vn none :: M) F = (vn = .pointer none → G w0 M F) := by rw [ob_eq, NowR]; simp only [G_pure]
theorem Now_some : G w0 (ob NowR vn (some a) :: M) F = ∀ p, vn = ptr p 0 → G w0 (ob AttR p a :: M) F := by rw [ob_eq, NowR]; simp only [G_ex, G_star, G_pure]
theorem Now_shut (p : Nat) (a : AttS) [PickAll [ob AttR p a] L M] (H : G w0 (ob NowR (ptr p 0) (some a) :: M) F) : G w0 L F :=
  G.pickAll (As := [ob AttR p a]) (by rw [Now_some] at H; exact H p rfl)
theorem Now_nil (H : G w0 (ob NowR (.pointer none) none :: M) F) : G w0 M F := by rw [Now_none] at H; exact H rfl
theorem Jobs_open : G w0 (ob JobsR v jobs :: M) F = ∀ l : List (SlV × List TIns), l.map (·.2) = jobs → G w0 (sl progE v (l.map (·.1)) :: ob (BigO jobF) () l :: M) F := by
  rw [ob_eq, JobsR]
  simp only [G_ex, G_star, G_pure]
theorem Jobs_shut (v : Value) (l : List (SlV × List TIns)) [PickAll [sl progE v (l.map (·.1)), ob (BigO jobF) () l] L M] (H : G w0 (ob JobsR v (l.map (·.2)) :: M) F) : G w0 L F :=
  G.pickAll (As := [sl progE v (l.map (·.1)), ob (BigO jobF) () l]) (by rw [Jobs_open] at H; exact H l rfl)
theorem Past_open {n : Nat} : G w0 (ob PastR v n :: M) F = ∀ l : List (TAtt × List TCell × List TCell), (l.length = n ∧ ∀ p ∈ l, p.2.1.length ≤ 1000 ∧ p.2.2.length ≤ 1000) → G w0 (sl tAttE v (l.map (·.1)) :: ob (BigO pastF) () l :: M) F := by
  rw [ob_eq, PastR]
  simp only [G_ex, G_star, G_pure]

/-- a job's program can be read -/
theorem job_rd {l : List (SlV × List TIns)} {k : Nat} {q : SlV × List TIns} (h : l[k]? = some q) : Rd w0 (ob (BigO jobF) () l :: M) q.1.v tInsE 5 q.2 := ⟨rfl, fun w H => by
  have e : G w0 (ob (BigO jobF) () l :: M) (fun w => SliceIs tInsE w q.1.v q.2) := by
    rw [Big_at h]
    exact fun w H => St.sl_is H
  exact e w H⟩

/-- the next attempt at the job, if there is one -/
def thrAgain (x : ThrS) : ThrS := match x.jobs[x.job.toNat]? with
  | some p => { x with born := 0, now := some (attNew x.me x.s p), state := 1 }
  | none => { x with born := 0, now := none, state := 6 }
structure JobsOk (x : ThrS) : Prop where
  lo : 0 ≤ x.job
  hi : x.job ≤ x.jobs.length
  progs : ∀ p ∈ x.jobs, OkProg p

theorem s_thread_again (ho : JobsOk x) [i : SelOb L ThrR b x C] (hK : G w0 (C (ob ThrR b (thrAgain x))) (K (.tuple #[]))) : G w0 L (CP Tryz.prog Fn.thread_Thread_again [ptr b 0] K) := by
  refine i.use (fun M hK => ?_) hK
  refine C_thread_Thread_again ?_
  unfold S_thread_Thread_again
  obtain ⟨h1, h2, h3⟩ := ho
  obtain ⟨k, hk⟩ := Int.eq_ofNat_of_zero_le h1
  unfold thrAgain at hK
  rw [ThrR_open]
  intro vj vn vp vr lp
  refine G.take1 JobsR vj ?_
  rw [Jobs_open]
  intro l hl
  have hlen : (l.map (·.1)).length = x.jobs.length := by rw [← hl]; simp
  have hkt : x.job.toNat = k := by omega
  rw [hkt] at hK
  by_cases hc : k = x.jobs.length
  · have hn : x.jobs[k]? = none := by rw [hc]; simp
    rw [hn] at hK
    have ec : (x.job = (((l.map (·.1)).length : Nat) : Int)) = True := by rw [hk, hlen, hc]; simp
    repeat' (first | (with_reducible refine G.joini0 ?_) | (with_reducible refine G.joini1 ?_) | (with_reducible refine G.drew ?_) | (simp (maxSteps := 2000000) only [↓RG, RP, RB, BEq.rfl, Int.reduceEq, Int.reduceLT, Int.reduceLE, Nat.reduceEqDiff, ec]))
    refine Jobs_shut vj l ?_
    rw [hl]
    refine G.take1 NowR vn ?_
    refine G.drop ?_
    refine Now_nil ?_
    refine ThrR_close b { x with born := 0, now := none, state := 6 } vj (.pointer none) vp vr lp ?_
    exact hK
  · have hlt : k < x.jobs.length := by omega
    have hll : k < l.length := by rw [← hl] at hlt; simpa using hlt
    have hn : x.jobs[k]? = some x.jobs[k] := List.getElem?_eq_getElem hlt
    have hq : (l[k]).2 = x.jobs[k] := by
      have : x.jobs[k]? = (l.map (·.2))[k]? := by rw [hl]
      rw [hn, List.getElem?_map, List.getElem?_eq_getElem hll] at this
      simpa using this.symm
    rw [hn] at hK
    have ec : (x.job = (((l.map (·.1)).length : Nat) : Int)) = False := by rw [hk, hlen]; simp only [Int.ofNat_inj, eq_iff_iff, iff_false]; exact hc
    have e : Elem (l.map (·.1)) k l[k].1 := ⟨by rw [List.getElem?_map, List.getElem?_eq_getElem hll]; rfl⟩
    have hx : IxI x.job k := ⟨hk⟩
    repeat' (first | (with_reducible refine G.joini0 ?_) | (with_reducible refine G.joini1 ?_) | (with_reducible refine G.drew ?_) | (simp (maxSteps := 2000000) only [↓RG, RP, RB, BEq.rfl, Int.reduceEq, Int.reduceLT, Int.reduceLE, Nat.reduceEqDiff, ec]))
    refine G.take1 (BigO jobF) () ?_
    have r := fun M : List Asn => job_rd (w0 := w0) (M := M) (List.getElem?_eq_getElem hll)
    have r2 := r (sl progE vj (l.map (·.1)) :: own b [i64 x.me, i64 x.s.words, i64 x.s.stripes, i64 x.s.wide, i64 x.s.threads, u64 x.s.start, i64 x.s.spins, i64 x.s.writes, i64 x.s.fuel, vj, i64 x.job, i64 x.state, .bool false, .slice none 0 0, i64 x.tries, i64 x.conf, vn, i64 0, .bool false, vp, vr, ptr lp 0, .slice none 0 0, i64 x.by_, u64 x.since, .bool x.yld, i64 x.pauses] :: ob NowR vn x.now :: ob PastR vp x.past :: sl tResE vr x.res :: ob (BoxR tRestE) lp [] :: M)
    refine s_attempt_New (s := x.s) (p := l[k].2) inferInstance (by rw [hq]; exact h3 _ (List.getElem_mem hlt)) fun p => ?_
    rw [hq]
    repeat' (first | (with_reducible refine G.joini0 ?_) | (with_reducible refine G.joini1 ?_) | (with_reducible refine G.drew ?_) | (simp (maxSteps := 2000000) only [↓RG, RP, RB, BEq.rfl, Int.reduceEq, Int.reduceLT, Int.reduceLE, Nat.reduceEqDiff]))
    refine Jobs_shut vj l ?_
    rw [hl]
    refine G.take1 NowR vn ?_
    refine G.drop ?_
    refine Now_shut p (attNew x.me x.s x.jobs[k]) ?_
    refine ThrR_close b { x with born := 0, now := some (attNew x.me x.s x.jobs[k]), state := 1 } vj (ptr p 0) vp vr lp ?_
    exact hK

end
end Go.Proofs.YtoealglbimbbmaaGreatDoor.S
