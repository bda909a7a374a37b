/-
  CHAPTER 24: the document's extend; it and the program's go together.
-/
import Derived.Test.YtaghnmllaghcbaaFetchRel
namespace Go.Proofs.Ytaghnmllaghcbaa.S
open Go Go.Proofs
set_option linter.unusedVariables false
set_option linter.unusedSimpArgs false

def rextDone (x : ExtS) : ExtS := if x.pos = x.seen.length then { x with pat := { x.pat with fin := 2 } } else x
def rextTell (x : ExtS) (a : TAns) : ExtS :=
  if x.pat.fin = 0 then
    (if a.err = 0 then
      (if x.loaded = false then rextDone { x with loaded := true, stamp := a.word, pos := 0 }
       else if a.lock.held = true then { x with pat := (x.pat.rheld a.lock.owner).1 }
       else if a.lock.version = (x.seen.getD x.pos ⟨0, 0⟩).version then rextDone { x with pos := x.pos + 1 }
       else { x with pat := { x.pat with fin := 5 } })
     else { x with pat := x.pat.rfail a.err })
  else x
def rextNext (x : ExtS) : TOp := if x.loaded = true then ⟨3, (x.seen.getD x.pos ⟨0, 0⟩).stripe, 0, 0, zeroLock, zeroLock⟩ else ⟨6, 0, 0, 0, zeroLock, zeroLock⟩
abbrev rextAt (x : ExtS) : Int := if x.loaded = true then (x.pos : Int) else -1
def RExtR (b : Nat) (x : ExtS) : Asn := exA fun v => star (pureA (Cells v [v])) (star (own b (x.pat.rcells [v, i64 (rextAt x), u64 x.stamp])) (sl tSeenE v x.seen))

structure ExtRel (x y : ExtS) : Prop where
  pat : PatRel x.pat y.pat
  seen : y.seen = x.seen
  loaded : y.loaded = x.loaded
  pos : y.pos = x.pos
  stamp : y.stamp = x.stamp
  ok : ExtOk x
  le : x.pos ≤ x.seen.length
  nil : x.loaded = false → x.pos = 0

theorem ExtRel.new (me sp : Int) (s : List TSeen) : ExtRel (extNew me sp s) (extNew me sp s) := ⟨PatRel.new _ _, rfl, rfl, rfl, rfl, fun _ h => (by cases h), Nat.zero_le _, fun _ => rfl⟩

theorem ExtRel.done {p q : Pat} {s : List TSeen} {k : Nat} {t : Int} (hp : PatRel p q) (hf : p.fin = 0) (hle : k ≤ s.length) : ExtRel (extDone ⟨p, s, true, k, t⟩) (rextDone ⟨q, s, true, k, t⟩) := by
  unfold extDone rextDone
  dsimp only
  split <;> rename_i h
  · exact ⟨hp.ends hf (by decide), rfl, rfl, rfl, rfl, fun h => by simp [Pat.stop] at h, hle, fun h => by cases h⟩
  · exact ⟨hp, rfl, rfl, rfl, rfl, fun _ _ => by simp only; omega, hle, fun h => by cases h⟩

theorem ExtRel.tell {x y : ExtS} (h : ExtRel x y) (a : TAns) : ExtRel (extTell x a) (rextTell y a) := by
  cases x with | mk p x1 x2 x3 x4 =>
  cases y with | mk q s l k t =>
  cases h with | mk hp h1 h2 h3 h4 ho hle hnil =>
  dsimp only at hp h1 h2 h3 h4 hle hnil
  subst h1; subst h2; subst h3; subst h4
  unfold extTell rextTell
  dsimp only
  rw [hp.fin]
  by_cases hf : p.fin = 0
  · by_cases he : a.err = 0
    · have e : p.stopped a.err = p := by unfold Pat.stopped; rw [if_neg (fun g => g.2 he)]
      rw [e, if_pos hf, if_pos hf, if_pos he]
      cases l
      · rw [if_pos rfl, if_pos rfl]
        have : k = 0 := hnil rfl
        subst this
        exact ExtRel.done hp hf hle
      · rw [if_neg (show ¬ (true = false) by decide), if_neg (show ¬ (true = false) by decide)]
        have hlt : k < s.length := ho hf rfl
        by_cases c3 : a.lock.held = true
        · rw [if_pos c3, if_pos c3]
          have m := hp.meets hf a.lock.owner
          unfold Pat.meets at m
          split <;> rename_i c4
          · rw [if_pos c4] at m; exact ⟨m, rfl, rfl, rfl, rfl, fun _ _ => hlt, hle, hnil⟩
          · rw [if_neg c4] at m; exact ⟨m, rfl, rfl, rfl, rfl, fun _ _ => hlt, hle, hnil⟩
        · rw [if_neg c3, if_neg c3]
          split
          · exact ExtRel.done hp hf hlt
          · exact ⟨hp.ends hf (by decide), rfl, rfl, rfl, rfl, fun _ _ => hlt, hle, hnil⟩
    · have e : p.stopped a.err = p.stop 4 a.err (-1) := by unfold Pat.stopped; rw [if_pos ⟨hf, he⟩]
      rw [e, if_neg (by simp [Pat.stop]), if_pos hf, if_neg he]
      exact ⟨hp.failed hf he, rfl, rfl, rfl, rfl, fun h => by simp [Pat.stop] at h, hle, hnil⟩
  · have e : p.stopped a.err = p := by unfold Pat.stopped; rw [if_neg (fun g => hf g.1)]
    rw [e, if_neg hf, if_neg hf]
    exact ⟨hp, rfl, rfl, rfl, rfl, fun g => absurd g hf, hle, hnil⟩

section
variable {w0 : World} {L M : List Asn} {K : KV} {F : World → Prop} {C : Asn → List Asn} {b : Nat} {x : ExtS}

theorem RExtR_open : G w0 (ob RExtR b x :: M) F = ∀ v, Cells v [v] → G w0 (own b (x.pat.rcells [v, i64 (rextAt x), u64 x.stamp]) :: sl tSeenE v x.seen :: M) F := by
  rw [ob_eq, RExtR]
  simp only [G_ex, G_star, G_pure]

theorem RExtR_close {v : Value} (b : Nat) (x : ExtS) (M : List Asn) [Sub (own b (x.pat.rcells [v, i64 (rextAt x), u64 x.stamp]) :: sl tSeenE v x.seen :: M) L] (hv : Cells v [v]) (h : G w0 (ob RExtR b x :: M) F) : G w0 L F := by
  rw [RExtR_open] at h
  exact (h v hv).sub

theorem s_ref23_NewExtend {me sp : Int} {u : Value} {xs : List TSeen} {sz : Nat} [r : Rd w0 L u tSeenE sz xs] (hl : xs.length ≤ 1000000) (hK : ∀ b, G w0 (ob RExtR b (extNew me sp xs) :: L) (K (ptr b 0))) : G w0 L (CP Try.prog Fn.ref23_NewExtend [i64 me, i64 sp, u] K) := by
  have z1 := r.sz
  subst z1
  refine C_ref23_NewExtend ?_
  unfold S_ref23_NewExtend
  refine s_ref23_begin ?_
  refine G.nilsl tSeenE ?_
  refine G.append (ys := xs) (by simp; omega) (by simp [maxLen]; omega) fun v hv => ?_
  try simp (maxSteps := 2000000) only [↓RG, RP, true_and, and_true, beq_true, beq_false, Bool.true_beq, Bool.false_beq, BEq.rfl, Int.reduceEq, Int.reduceLT, Int.reduceLE, Nat.reduceEqDiff, decide_true, decide_false, Bool.not_true, Bool.not_false, Bool.and_true, Bool.true_and, Bool.and_false, Bool.false_and, Bool.or_true, Bool.true_or, Bool.or_false, Bool.false_or, Bool.not_not]
  refine G.box fun b => ?_
  try simp (maxSteps := 2000000) only [↓RG, RP, true_and, and_true, beq_true, beq_false, Bool.true_beq, Bool.false_beq, BEq.rfl, Int.reduceEq, Int.reduceLT, Int.reduceLE, Nat.reduceEqDiff, decide_true, decide_false, Bool.not_true, Bool.not_false, Bool.and_true, Bool.true_and, Bool.and_false, Bool.false_and, Bool.or_true, Bool.true_or, Bool.or_false, Bool.false_or, Bool.not_not]
  have h := hK b
  rw [RExtR_open] at h
  exact h v hv

theorem s_ref23_Extend_Next (ho : x.loaded = true → x.pos < x.seen.length) [i : SelOb L RExtR b x C] (hK : G w0 L (K (.agg (TOp.cells (rextNext x)).toArray))) : G w0 L (CP Try.prog Fn.ref23_Extend_Next [ptr b 0] K) := by
  refine i.ro (fun M hK => ?_) hK
  rw [RExtR_open] at *
  intro v hv
  have hK := hK v hv
  refine C_ref23_Extend_Next ?_
  unfold S_ref23_Extend_Next
  refine G.new fun q => ?_
  try simp (maxSteps := 2000000) only [↓RG, RP, true_and, and_true, beq_true, beq_false, Bool.true_beq, Bool.false_beq, BEq.rfl, Int.reduceEq, Int.reduceLT, Int.reduceLE, Nat.reduceEqDiff, decide_true, decide_false, Bool.not_true, Bool.not_false, Bool.and_true, Bool.true_and, Bool.and_false, Bool.false_and, Bool.or_true, Bool.true_or, Bool.or_false, Bool.false_or, Bool.not_not]
  unfold rextNext at hK
  by_cases h2 : x.loaded = true
  · rw [if_pos h2] at hK
    have hp := ho h2
    have e := elem_of hp
    have hg : x.seen.getD x.pos ⟨0, 0⟩ = x.seen[x.pos] := by simp [hp]
    rw [hg] at hK
    have ha : rextAt x = (x.pos : Int) := by simp only [rextAt, h2, if_true]
    have hn : ¬ (x.pos : Int) < 0 := by omega
    rw [ha] at hK ⊢
    repeat' (first | (with_reducible refine G.joini0 ?_) | (with_reducible refine G.joini1 ?_) | (with_reducible refine G.drew ?_) | (simp (maxSteps := 2000000) only [↓RG, RP, true_and, and_true, beq_true, beq_false, Bool.true_beq, Bool.false_beq, BEq.rfl, Int.reduceEq, Int.reduceLT, Int.reduceLE, Nat.reduceEqDiff, decide_true, decide_false, Bool.not_true, Bool.not_false, Bool.and_true, Bool.true_and, Bool.and_false, Bool.false_and, Bool.or_true, Bool.true_or, Bool.or_false, Bool.false_or, Bool.not_not, hn]))
    exact hK.sub
  · rw [if_neg h2] at hK
    have ha : rextAt x = -1 := by simp only [rextAt, h2]; rfl
    rw [ha] at hK ⊢
    repeat' (first | (with_reducible refine G.joini0 ?_) | (with_reducible refine G.joini1 ?_) | (with_reducible refine G.drew ?_) | (simp (maxSteps := 2000000) only [↓RG, RP, true_and, and_true, beq_true, beq_false, Bool.true_beq, Bool.false_beq, BEq.rfl, Int.reduceEq, Int.reduceLT, Int.reduceLE, Nat.reduceEqDiff, decide_true, decide_false, Bool.not_true, Bool.not_false, Bool.and_true, Bool.true_and, Bool.and_false, Bool.false_and, Bool.or_true, Bool.true_or, Bool.or_false, Bool.false_or, Bool.not_not, Int.reduceNeg]))
    exact hK.sub

theorem s_ref23_Extend_Tell {a : TAns} (ho : x.pat.fin = 0 → x.loaded = true → x.pos < x.seen.length) (hf : x.seen.length ≤ 1000000) [i : SelOb L RExtR b x C] (hK : G w0 (C (ob RExtR b (rextTell x a))) (K (.tuple #[]))) : G w0 L (CP Try.prog Fn.ref23_Extend_Tell [ptr b 0, .agg (TAns.cells a).toArray] K) := by
  refine i.use (fun M hK => ?_) hK
  refine C_ref23_Extend_Tell ?_
  unfold S_ref23_Extend_Tell
  try simp (maxSteps := 2000000) only [fuse_and, fuse_or, fuse_step, fuse_pair, fuse_in, andP_true]
  refine G.box fun q => ?_
  rw [G_swap, RExtR_open]
  intro v hv
  refine G.drew ?_
  try simp (maxSteps := 2000000) only [↓RG, RP, true_and, and_true, beq_true, beq_false, Bool.true_beq, Bool.false_beq, BEq.rfl, Int.reduceEq, Int.reduceLT, Int.reduceLE, Nat.reduceEqDiff, decide_true, decide_false, Bool.not_true, Bool.not_false, Bool.and_true, Bool.true_and, Bool.and_false, Bool.false_and, Bool.or_true, Bool.true_or, Bool.or_false, Bool.false_or, Bool.not_not]
  unfold rextTell at hK
  by_cases hs : x.pat.fin = 0
  · rw [if_pos hs] at hK
    try simp (maxSteps := 2000000) only [↓RG, RP, true_and, and_true, beq_true, beq_false, Bool.true_beq, Bool.false_beq, BEq.rfl, Int.reduceEq, Int.reduceLT, Int.reduceLE, Nat.reduceEqDiff, decide_true, decide_false, Bool.not_true, Bool.not_false, Bool.and_true, Bool.true_and, Bool.and_false, Bool.false_and, Bool.or_true, Bool.true_or, Bool.or_false, Bool.false_or, Bool.not_not, hs]
    refine s_ref23_Step_failed (p := x.pat) (a := a) (rest := [v, i64 (rextAt x), u64 x.stamp]) ?_
    by_cases he : a.err = 0
    · rw [if_pos he] at hK
      have e0 : x.pat.rfail a.err = x.pat := by unfold Pat.rfail; rw [if_pos he]
      rw [e0]
      try simp (maxSteps := 2000000) only [↓RG, RP, true_and, and_true, beq_true, beq_false, Bool.true_beq, Bool.false_beq, BEq.rfl, Int.reduceEq, Int.reduceLT, Int.reduceLE, Nat.reduceEqDiff, decide_true, decide_false, Bool.not_true, Bool.not_false, Bool.and_true, Bool.true_and, Bool.and_false, Bool.false_and, Bool.or_true, Bool.true_or, Bool.or_false, Bool.false_or, Bool.not_not, he]
      cases hl : x.loaded
      · rw [if_pos hl] at hK
        have ha : rextAt x = -1 := by simp only [rextAt, hl]; rfl
        rw [ha]
        have w1 : IntKind.wrap .i64 (-1 + 1) = ((0 : Nat) : Int) := by decide
        repeat' (first | (with_reducible refine G.joini0 ?_) | (with_reducible refine G.joini1 ?_) | (with_reducible refine G.drew ?_) | (simp (maxSteps := 2000000) only [↓RG, RP, true_and, and_true, beq_true, beq_false, Bool.true_beq, Bool.false_beq, BEq.rfl, Int.reduceEq, Int.reduceLT, Int.reduceLE, Nat.reduceEqDiff, decide_true, decide_false, Bool.not_true, Bool.not_false, Bool.and_true, Bool.true_and, Bool.and_false, Bool.false_and, Bool.or_true, Bool.true_or, Bool.or_false, Bool.false_or, Bool.not_not, Int.reduceNeg, w1]))
        unfold rextDone at hK
        refine G.cond (fun h => ?_) (fun h => ?_)
        · rw [if_pos (by simp at h; simp only; omega), RExtR_open] at hK
          simp only [rextAt, if_true] at hK
          repeat' (first | (with_reducible refine G.joini0 ?_) | (with_reducible refine G.joini1 ?_) | (with_reducible refine G.drew ?_) | (simp (maxSteps := 2000000) only [↓RG, RP, true_and, and_true, beq_true, beq_false, Bool.true_beq, Bool.false_beq, BEq.rfl, Int.reduceEq, Int.reduceLT, Int.reduceLE, Nat.reduceEqDiff, decide_true, decide_false, Bool.not_true, Bool.not_false, Bool.and_true, Bool.true_and, Bool.and_false, Bool.false_and, Bool.or_true, Bool.true_or, Bool.or_false, Bool.false_or, Bool.not_not]))
          exact (hK v hv).sub
        · rw [if_neg (by simp at h; simp only; omega), RExtR_open] at hK
          simp only [rextAt, if_true] at hK
          exact (hK v hv).sub
      · rw [if_neg (by rw [hl]; decide)] at hK
        have hp2 := ho hs hl
        have e := elem_of hp2
        have hg : x.seen.getD x.pos ⟨0, 0⟩ = x.seen[x.pos] := by simp [hp2]
        have ha : rextAt x = (x.pos : Int) := by simp only [rextAt, hl, if_true]
        have ha2 : ∀ q, (if x.loaded = true then (q : Int) else -1) = q := fun q => by rw [hl]; rfl
        have hn : ¬ (x.pos : Int) < 0 := by omega
        rw [ha]
        repeat' (first | (with_reducible refine G.joini0 ?_) | (with_reducible refine G.joini1 ?_) | (with_reducible refine G.drew ?_) | (simp (maxSteps := 2000000) only [↓RG, RP, true_and, and_true, beq_true, beq_false, Bool.true_beq, Bool.false_beq, BEq.rfl, Int.reduceEq, Int.reduceLT, Int.reduceLE, Nat.reduceEqDiff, decide_true, decide_false, Bool.not_true, Bool.not_false, Bool.and_true, Bool.true_and, Bool.and_false, Bool.false_and, Bool.or_true, Bool.true_or, Bool.or_false, Bool.false_or, Bool.not_not, hn]))
        cases hh : a.lock.held
        · rw [if_neg (by rw [hh]; decide), hg] at hK
          repeat' (first | (with_reducible refine G.joini0 ?_) | (with_reducible refine G.joini1 ?_) | (with_reducible refine G.drew ?_) | (simp (maxSteps := 2000000) only [↓RG, RP, true_and, and_true, beq_true, beq_false, Bool.true_beq, Bool.false_beq, BEq.rfl, Int.reduceEq, Int.reduceLT, Int.reduceLE, Nat.reduceEqDiff, decide_true, decide_false, Bool.not_true, Bool.not_false, Bool.and_true, Bool.true_and, Bool.and_false, Bool.false_and, Bool.or_true, Bool.true_or, Bool.or_false, Bool.false_or, Bool.not_not, hh]))
          by_cases hv2 : a.lock.version = x.seen[x.pos].version
          · rw [if_pos hv2] at hK
            have ws := wsucc (k := x.pos) (by omega)
            repeat' (first | (with_reducible refine G.joini0 ?_) | (with_reducible refine G.joini1 ?_) | (with_reducible refine G.drew ?_) | (simp (maxSteps := 2000000) only [↓RG, RP, true_and, and_true, beq_true, beq_false, Bool.true_beq, Bool.false_beq, BEq.rfl, Int.reduceEq, Int.reduceLT, Int.reduceLE, Nat.reduceEqDiff, decide_true, decide_false, Bool.not_true, Bool.not_false, Bool.and_true, Bool.true_and, Bool.and_false, Bool.false_and, Bool.or_true, Bool.true_or, Bool.or_false, Bool.false_or, Bool.not_not, hv2, ws]))
            unfold rextDone at hK
            refine G.cond (fun h => ?_) (fun h => ?_)
            · rw [if_pos (by simp at h; simp only; omega), RExtR_open] at hK
              simp only [rextAt, ha2] at hK
              repeat' (first | (with_reducible refine G.joini0 ?_) | (with_reducible refine G.joini1 ?_) | (with_reducible refine G.drew ?_) | (simp (maxSteps := 2000000) only [↓RG, RP, true_and, and_true, beq_true, beq_false, Bool.true_beq, Bool.false_beq, BEq.rfl, Int.reduceEq, Int.reduceLT, Int.reduceLE, Nat.reduceEqDiff, decide_true, decide_false, Bool.not_true, Bool.not_false, Bool.and_true, Bool.true_and, Bool.and_false, Bool.false_and, Bool.or_true, Bool.true_or, Bool.or_false, Bool.false_or, Bool.not_not]))
              exact (hK v hv).sub
            · rw [if_neg (by simp at h; simp only; omega), RExtR_open] at hK
              simp only [rextAt, ha2] at hK
              exact (hK v hv).sub
          · rw [if_neg hv2, RExtR_open] at hK
            simp only [rextAt, ha2] at hK
            repeat' (first | (with_reducible refine G.joini0 ?_) | (with_reducible refine G.joini1 ?_) | (with_reducible refine G.drew ?_) | (simp (maxSteps := 2000000) only [↓RG, RP, true_and, and_true, beq_true, beq_false, Bool.true_beq, Bool.false_beq, BEq.rfl, Int.reduceEq, Int.reduceLT, Int.reduceLE, Nat.reduceEqDiff, decide_true, decide_false, Bool.not_true, Bool.not_false, Bool.and_true, Bool.true_and, Bool.and_false, Bool.false_and, Bool.or_true, Bool.true_or, Bool.or_false, Bool.false_or, Bool.not_not, hv2]))
            exact (hK v hv).sub
        · rw [if_pos hh, RExtR_open] at hK
          simp only [rextAt, ha2] at hK
          repeat' (first | (with_reducible refine G.joini0 ?_) | (with_reducible refine G.joini1 ?_) | (with_reducible refine G.drew ?_) | (simp (maxSteps := 2000000) only [↓RG, RP, true_and, and_true, beq_true, beq_false, Bool.true_beq, Bool.false_beq, BEq.rfl, Int.reduceEq, Int.reduceLT, Int.reduceLE, Nat.reduceEqDiff, decide_true, decide_false, Bool.not_true, Bool.not_false, Bool.and_true, Bool.true_and, Bool.and_false, Bool.false_and, Bool.or_true, Bool.true_or, Bool.or_false, Bool.false_or, Bool.not_not, hh]))
          refine s_ref23_Step_held (p := x.pat) (x := ⟨a.lock.version, true, a.lock.owner⟩) (rest := [v, i64 x.pos, u64 x.stamp]) ?_
          try simp (maxSteps := 2000000) only [↓RG, RP, true_and, and_true, beq_true, beq_false, Bool.true_beq, Bool.false_beq, BEq.rfl, Int.reduceEq, Int.reduceLT, Int.reduceLE, Nat.reduceEqDiff, decide_true, decide_false, Bool.not_true, Bool.not_false, Bool.and_true, Bool.true_and, Bool.and_false, Bool.false_and, Bool.or_true, Bool.true_or, Bool.or_false, Bool.false_or, Bool.not_not]
          exact (hK v hv).sub
    · rw [if_neg he] at hK
      try simp (maxSteps := 2000000) only [↓RG, RP, true_and, and_true, beq_true, beq_false, Bool.true_beq, Bool.false_beq, BEq.rfl, Int.reduceEq, Int.reduceLT, Int.reduceLE, Nat.reduceEqDiff, decide_true, decide_false, Bool.not_true, Bool.not_false, Bool.and_true, Bool.true_and, Bool.and_false, Bool.false_and, Bool.or_true, Bool.true_or, Bool.or_false, Bool.false_or, Bool.not_not, he]
      rw [RExtR_open] at hK
      exact (hK v hv).sub
  · rw [if_neg hs] at hK
    try simp (maxSteps := 2000000) only [↓RG, RP, true_and, and_true, beq_true, beq_false, Bool.true_beq, Bool.false_beq, BEq.rfl, Int.reduceEq, Int.reduceLT, Int.reduceLE, Nat.reduceEqDiff, decide_true, decide_false, Bool.not_true, Bool.not_false, Bool.and_true, Bool.true_and, Bool.and_false, Bool.false_and, Bool.or_true, Bool.true_or, Bool.or_false, Bool.false_or, Bool.not_not, hs]
    rw [RExtR_open] at hK
    exact (hK v hv).sub

end
end Go.Proofs.Ytaghnmllaghcbaa.S
