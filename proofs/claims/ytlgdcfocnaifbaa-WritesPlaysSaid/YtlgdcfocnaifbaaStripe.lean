/-
  CHAPTERS 1, 3: contracts of packages lock and stripe.
-/
import Derived.Test.YtlgdcfocnaifbaaBook
namespace Go.Proofs.Ytlgdcfocnaifbaa.S
open Go Go.Proofs
set_option linter.unusedVariables false
set_option linter.unusedSimpArgs false

def isLock (l : TLock) : Bool := if l.held then decide (l.version < 4611686018427387904) && (decide (0 ≤ l.owner) && decide (l.owner < 4)) else decide (l.version < 4611686018427387904) && decide (l.owner = 0)

def zeroLock : TLock := ⟨0, false, 0⟩

/-- a place of a row of that length -/
def inLen (i : Int) (n : Nat) : Bool := decide (0 ≤ i) && decide (i < n)
theorem inLen_elim {i : Int} {n : Nat} (h : inLen i n = true) : ∃ k : Nat, i = k ∧ k < n := by
  simp [inLen] at h
  exact ⟨i.toNat, by omega, by omega⟩
theorem inLen_nat {k n : Nat} (h : k < n) : inLen (k : Int) n = true := by simp [inLen]; omega

def stripeOf (a n wide : Int) : Int := if a < 0 then -1 else (IntKind.wrap .i64 (a.tdiv (held wide 1 16))).tmod (held n 1 16)

def loadRes (ls : List TLock) (i : Int) : TLock × Int := if inLen i ls.length then (ls.getD i.toNat zeroLock, 0) else (zeroLock, 2)
def mayErr (ls : List TLock) (i : Int) (l : TLock) : Int := if inLen i ls.length then (if isLock l then 0 else 1) else 2
def casRes (ls : List TLock) (i : Int) (was l : TLock) : List TLock × Bool × Int :=
  if mayErr ls i l = 0 then (if ls.getD i.toNat zeroLock = was then (ls.set i.toNat l, true, 0) else (ls, false, 0)) else (ls, false, mayErr ls i l)
def storeRes (ls : List TLock) (i : Int) (l : TLock) : List TLock × Int := if mayErr ls i l = 0 then (ls.set i.toNat l, 0) else (ls, mayErr ls i l)

theorem mayErr_zero {ls : List TLock} {i : Int} {l : TLock} (h : mayErr ls i l = 0) : ∃ k : Nat, i = k ∧ k < ls.length ∧ isLock l = true := by
  unfold mayErr at h
  split at h
  · rename_i h1
    obtain ⟨k, rfl, hk⟩ := inLen_elim h1
    split at h
    · exact ⟨k, rfl, hk, by assumption⟩
    · omega
  · omega

/-- a table: its locks, how wide it is -/
def TableR (b : Nat) (s : List TLock × Int) : Asn := exA fun v => star (pureA (Cells v [v])) (star (own b [v, i64 s.2]) (sl tLockE v s.1))

def heldUpTo (ls : List TLock) (o : Int) (k : Nat) : List Int := ((List.range k).filter fun i => (ls.getD i zeroLock).held && decide ((ls.getD i zeroLock).owner = o)).map fun i : Nat => (i : Int)
theorem heldUpTo_succ (ls : List TLock) (o : Int) (k : Nat) : heldUpTo ls o (k + 1) = if ((ls.getD k zeroLock).held && decide ((ls.getD k zeroLock).owner = o)) = true then heldUpTo ls o k ++ [(k : Int)] else heldUpTo ls o k := by
  unfold heldUpTo
  rw [List.range_succ, List.filter_append]
  by_cases h : ((ls.getD k zeroLock).held && decide ((ls.getD k zeroLock).owner = o)) = true
  · rw [if_pos h, List.filter_cons, if_pos h]; simp
  · rw [if_neg h, List.filter_cons, if_neg h]; simp
theorem heldUpTo_length (ls : List TLock) (o : Int) (k : Nat) : (heldUpTo ls o k).length ≤ k := by
  unfold heldUpTo
  have := List.length_filter_le (fun i => (ls.getD i zeroLock).held && decide ((ls.getD i zeroLock).owner = o)) (List.range k)
  simp only [List.length_map]
  rw [List.length_range] at this
  exact this

theorem getD_lock {ls : List TLock} {k : Nat} (h : k < ls.length) : ls.getD k zeroLock = ls[k] := by simp [h]

section
variable {w0 : Base} {L M : List Asn} {K : KV} {F : World → Prop} {C : Asn → List Asn} {b : Nat} {ls : List TLock} {wide : Int}

theorem TableR_open : G w0 (ob TableR b (ls, wide) :: M) F = ∀ v, Cells v [v] → G w0 (own b [v, i64 wide] :: sl tLockE v ls :: M) F := by
  rw [ob_eq, TableR]
  simp only [G_ex, G_star, G_pure]

theorem near_core {n : Int} : (if (if (16 : Int) < n then (16 : Int) else n) > 1 then (if (16 : Int) < n then (16 : Int) else n) else 1) = held n 1 16 := by
  unfold held; split <;> split <;> (try split) <;> (try split) <;> omega

theorem s_stripe_near {n : Int} (hK : G w0 L (K (i64 (held n 1 16)))) : G w0 L (CP Try.prog Fn.stripe_near [i64 n, i64 16] K) := by
  refine C_stripe_near ?_
  unfold S_stripe_near
  try simp (maxSteps := 2000000) only [↓RG, RP, true_and, and_true, beq_true, beq_false, Bool.true_beq, Bool.false_beq, BEq.rfl, Int.reduceEq, Int.reduceLT, Int.reduceLE, Nat.reduceEqDiff, decide_true, decide_false, Bool.not_true, Bool.not_false, Bool.and_true, Bool.true_and, Bool.and_false, Bool.false_and, Bool.or_true, Bool.true_or, Bool.or_false, Bool.false_or, Bool.not_not]
  rw [near_core]
  exact hK

theorem held_ne (n : Int) : NeZ (held n 1 16) := ⟨by have := held_le (n := n) (show (1 : Int) ≤ 16 by omega); omega⟩

theorem s_stripe_Of {a n wd : Int} (hK : G w0 L (K (i64 (stripeOf a n wd)))) : G w0 L (CP Try.prog Fn.stripe_Of [i64 a, i64 n, i64 wd] K) := by
  refine C_stripe_Of ?_
  unfold S_stripe_Of
  unfold stripeOf at hK
  have n1 := held_ne wd
  have n2 := held_ne n
  try simp (maxSteps := 2000000) only [↓RG, RP, true_and, and_true, beq_true, beq_false, Bool.true_beq, Bool.false_beq, BEq.rfl, Int.reduceEq, Int.reduceLT, Int.reduceLE, Nat.reduceEqDiff, decide_true, decide_false, Bool.not_true, Bool.not_false, Bool.and_true, Bool.true_and, Bool.and_false, Bool.false_and, Bool.or_true, Bool.true_or, Bool.or_false, Bool.false_or, Bool.not_not]
  refine G.cond (fun h => ?_) (fun h => ?_)
  · rw [if_pos (by simpa using h)] at hK
    exact hK
  · rw [if_neg (by simpa using h)] at hK
    refine G.drew ?_
    refine s_stripe_near ?_
    try simp (maxSteps := 2000000) only [↓RG, RP, true_and, and_true, beq_true, beq_false, Bool.true_beq, Bool.false_beq, BEq.rfl, Int.reduceEq, Int.reduceLT, Int.reduceLE, Nat.reduceEqDiff, decide_true, decide_false, Bool.not_true, Bool.not_false, Bool.and_true, Bool.true_and, Bool.and_false, Bool.false_and, Bool.or_true, Bool.true_or, Bool.or_false, Bool.false_or, Bool.not_not]
    refine s_stripe_near ?_
    try simp (maxSteps := 2000000) only [↓RG, RP, true_and, and_true, beq_true, beq_false, Bool.true_beq, Bool.false_beq, BEq.rfl, Int.reduceEq, Int.reduceLT, Int.reduceLE, Nat.reduceEqDiff, decide_true, decide_false, Bool.not_true, Bool.not_false, Bool.and_true, Bool.true_and, Bool.and_false, Bool.false_and, Bool.or_true, Bool.true_or, Bool.or_false, Bool.false_or, Bool.not_not]
    exact hK

theorem s_ref1_Of {a n wd : Int} (hK : G w0 L (K (i64 (stripeOf a n wd)))) : G w0 L (CP Try.prog Fn.ref1_Of [i64 a, i64 n, i64 wd] K) := by
  refine C_ref1_Of ?_
  unfold S_ref1_Of
  unfold stripeOf at hK
  have n1 := held_ne wd
  have n2 := held_ne n
  try simp (maxSteps := 2000000) only [↓RG, RP, true_and, and_true, beq_true, beq_false, Bool.true_beq, Bool.false_beq, BEq.rfl, Int.reduceEq, Int.reduceLT, Int.reduceLE, Nat.reduceEqDiff, decide_true, decide_false, Bool.not_true, Bool.not_false, Bool.and_true, Bool.true_and, Bool.and_false, Bool.false_and, Bool.or_true, Bool.true_or, Bool.or_false, Bool.false_or, Bool.not_not]
  refine G.cond (fun h => ?_) (fun h => ?_)
  · rw [if_pos (by simpa using h)] at hK
    exact hK
  · rw [if_neg (by simpa using h)] at hK
    refine G.drew ?_
    refine s_ref1_Held ?_
    try simp (maxSteps := 2000000) only [↓RG, RP, true_and, and_true, beq_true, beq_false, Bool.true_beq, Bool.false_beq, BEq.rfl, Int.reduceEq, Int.reduceLT, Int.reduceLE, Nat.reduceEqDiff, decide_true, decide_false, Bool.not_true, Bool.not_false, Bool.and_true, Bool.true_and, Bool.and_false, Bool.false_and, Bool.or_true, Bool.true_or, Bool.or_false, Bool.false_or, Bool.not_not]
    refine s_ref1_Held ?_
    try simp (maxSteps := 2000000) only [↓RG, RP, true_and, and_true, beq_true, beq_false, Bool.true_beq, Bool.false_beq, BEq.rfl, Int.reduceEq, Int.reduceLT, Int.reduceLE, Nat.reduceEqDiff, decide_true, decide_false, Bool.not_true, Bool.not_false, Bool.and_true, Bool.true_and, Bool.and_false, Bool.false_and, Bool.or_true, Bool.true_or, Bool.or_false, Bool.false_or, Bool.not_not]
    exact hK

end
end Go.Proofs.Ytlgdcfocnaifbaa.S
