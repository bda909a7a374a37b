/-
  CHAPTER 7: contracts of package reads.
-/
import Derived.Test.YtaghnmllaghcbaaBook
namespace Go.Proofs.Ytaghnmllaghcbaa.S
open Go Go.Proofs
set_option linter.unusedVariables false
set_option linter.unusedSimpArgs false

/-- a read set: its room, what was seen -/
def ReadsR (b : Nat) (s : Int × List TSeen) : Asn := exA fun v => star (pureA (Cells v [v])) (star (own b [i64 s.1, v]) (sl tSeenE v s.2))

def seenAt (xs : List TSeen) (k : Int) : Option Int := (xs.find? fun x => decide (x.stripe = k)).map (·.version)

def addErr (m : Int) (xs : List TSeen) (x : TSeen) : Int :=
  if x.stripe < 0 ∨ 16 ≤ x.stripe ∨ 4611686018427387904 ≤ x.version then 1 else
  match seenAt xs x.stripe with
  | some v => if v = x.version then 0 else 14
  | none => if (xs.length : Int) = m then 5 else 0
def addSeen (m : Int) (xs : List TSeen) (x : TSeen) : List TSeen :=
  if x.stripe < 0 ∨ 16 ≤ x.stripe ∨ 4611686018427387904 ≤ x.version then xs else
  match seenAt xs x.stripe with
  | some _ => xs
  | none => if (xs.length : Int) = m then xs else xs ++ [x]

def standOne (locks : List TLock) (x : TSeen) : Bool := match locks[x.stripe.toNat]? with
  | some l => !l.held && decide (l.version = x.version)
  | none => false
def stands (xs : List TSeen) (locks : List TLock) : Bool := xs.all (standOne locks)

section
variable {w0 : World} {L M : List Asn} {K : KV} {F : World → Prop} {C : Asn → List Asn} {b : Nat} {m : Int} {xs : List TSeen}

theorem ReadsR_open : G w0 (ob ReadsR b (m, xs) :: M) F = ∀ v, Cells v [v] → G w0 (own b [i64 m, v] :: sl tSeenE v xs :: M) F := by
  rw [ob_eq, ReadsR]
  simp only [G_ex, G_star, G_pure]

theorem readsNew_core {n : Int} : (if (if (16 : Int) < n then (16 : Int) else n) > 1 then (if (16 : Int) < n then (16 : Int) else n) else 1) = held n 1 16 := by
  unfold held; split <;> split <;> (try split) <;> (try split) <;> omega

theorem seenAt_cons (x : TSeen) (xs : List TSeen) (k : Int) : seenAt (x :: xs) k = if x.stripe = k then some x.version else seenAt xs k := by
  unfold seenAt
  by_cases h : x.stripe = k <;> simp [List.find?_cons, h]

def gotV (o : Option Int) : Value := .tuple #[u64 (o.getD 0), .bool o.isSome]

theorem stands_cons (x : TSeen) (xs : List TSeen) (ls : List TLock) : stands (x :: xs) ls = (standOne ls x && stands xs ls) := rfl

theorem s_ref7_Stands {v lv : Value} {ls : List TLock} [r1 : Rd w0 L v tSeenE 2 xs] [r2 : Rd w0 L lv tLockE 3 ls] (hl : xs.length ≤ 1000000) (h0 : ∀ x ∈ xs, 0 ≤ x.stripe) (hK : G w0 L (K (.bool (stands xs ls)))) : G w0 L (CP Try.prog Fn.ref7_Stands [v, lv] K) := by
  refine C_ref7_Stands ?_
  unfold S_ref7_Stands
  refine G.loopc1 (fun j : Nat => i64 j) (fun j => j ≤ xs.length ∧ stands xs ls = stands (xs.drop j) ls) (fun j => xs.length - j) 0 rfl ⟨by omega, by simp⟩ ?_
  rintro j ⟨hj, hp⟩ J hJ
  try simp (maxSteps := 2000000) only [fuse_and, fuse_or, fuse_step, fuse_pair, fuse_in, andP_true]
  try simp (maxSteps := 2000000) only [↓RG, RP, true_and, and_true, beq_true, beq_false, Bool.true_beq, Bool.false_beq, BEq.rfl, Int.reduceEq, Int.reduceLT, Int.reduceLE, Nat.reduceEqDiff, decide_true, decide_false, Bool.not_true, Bool.not_false, Bool.and_true, Bool.true_and, Bool.and_false, Bool.false_and, Bool.or_true, Bool.true_or, Bool.or_false, Bool.false_or, Bool.not_not]
  refine G.cond (fun h => ?_) (fun h => ?_)
  · have hj2 : j < xs.length := by simpa using h
    have e := elem_of hj2
    rw [List.drop_eq_getElem_cons hj2, stands_cons] at hp
    have hn := h0 _ (List.getElem_mem hj2)
    obtain ⟨k, hk⟩ := Int.eq_ofNat_of_zero_le hn
    have ix : IxI xs[j].stripe k := ⟨hk⟩
    have hlt : decide (xs[j].stripe < 0) = false := by simp; omega
    try simp (maxSteps := 2000000) only [↓RG, RP, true_and, and_true, beq_true, beq_false, Bool.true_beq, Bool.false_beq, BEq.rfl, Int.reduceEq, Int.reduceLT, Int.reduceLE, Nat.reduceEqDiff, decide_true, decide_false, Bool.not_true, Bool.not_false, Bool.and_true, Bool.true_and, Bool.and_false, Bool.false_and, Bool.or_true, Bool.true_or, Bool.or_false, Bool.false_or, Bool.not_not]
    refine G.drew ?_
    try simp (maxSteps := 2000000) only [↓RG, RP, true_and, and_true, beq_true, beq_false, Bool.true_beq, Bool.false_beq, BEq.rfl, Int.reduceEq, Int.reduceLT, Int.reduceLE, Nat.reduceEqDiff, decide_true, decide_false, Bool.not_true, Bool.not_false, Bool.and_true, Bool.true_and, Bool.and_false, Bool.false_and, Bool.or_true, Bool.true_or, Bool.or_false, Bool.false_or, Bool.not_not, hlt]
    by_cases hk2 : k < ls.length
    · have e2 := elem_of hk2
      have h3 : decide ((ls.length : Int) ≤ xs[j].stripe) = false := by simp; omega
      have h4 : standOne ls xs[j] = (!ls[k].held && decide (ls[k].version = xs[j].version)) := by unfold standOne; rw [hk]; simp [hk2]
      rw [h4] at hp
      try simp (maxSteps := 2000000) only [↓RG, RP, true_and, and_true, beq_true, beq_false, Bool.true_beq, Bool.false_beq, BEq.rfl, Int.reduceEq, Int.reduceLT, Int.reduceLE, Nat.reduceEqDiff, decide_true, decide_false, Bool.not_true, Bool.not_false, Bool.and_true, Bool.true_and, Bool.and_false, Bool.false_and, Bool.or_true, Bool.true_or, Bool.or_false, Bool.false_or, Bool.not_not, h3]
      refine G.any (!decide (ls[k].version = xs[j].version)) (fun _ K hK => by try simp (maxSteps := 2000000) only [↓RG, RP, true_and, and_true, beq_true, beq_false, Bool.true_beq, Bool.false_beq, BEq.rfl, Int.reduceEq, Int.reduceLT, Int.reduceLE, Nat.reduceEqDiff, decide_true, decide_false, Bool.not_true, Bool.not_false, Bool.and_true, Bool.true_and, Bool.and_false, Bool.false_and, Bool.or_true, Bool.true_or, Bool.or_false, Bool.false_or, Bool.not_not]; exact hK) ?_
      refine G.cond (fun h => ?_) (fun h => ?_)
      · have : stands xs ls = false := by rw [hp]; simp at h ⊢; intro h5; rcases h with h | h <;> simp_all
        rwa [this] at hK
      · rw [wsucc (by omega)]
        refine hJ (j + 1) ⟨hj2, ?_⟩ (by omega)
        rw [hp]; simp at h; simp [h]
    · have h3 : decide ((ls.length : Int) ≤ xs[j].stripe) = true := by simp; omega
      have h4 : standOne ls xs[j] = false := by unfold standOne; rw [hk]; simp [List.getElem?_eq_none (show ls.length ≤ k by omega)]
      rw [h4] at hp
      try simp (maxSteps := 2000000) only [↓RG, RP, true_and, and_true, beq_true, beq_false, Bool.true_beq, Bool.false_beq, BEq.rfl, Int.reduceEq, Int.reduceLT, Int.reduceLE, Nat.reduceEqDiff, decide_true, decide_false, Bool.not_true, Bool.not_false, Bool.and_true, Bool.true_and, Bool.and_false, Bool.false_and, Bool.or_true, Bool.true_or, Bool.or_false, Bool.false_or, Bool.not_not, h3]
      have : stands xs ls = false := by rw [hp]; rfl
      rwa [this] at hK
  · have : xs.drop j = [] := List.drop_eq_nil_of_le (by simpa using h)
    rw [this] at hp
    rw [hp] at hK
    exact hK

end
end Go.Proofs.Ytaghnmllaghcbaa.S
