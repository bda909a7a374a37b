/-
  CHAPTER 7: contracts of package reads.
-/
import Derived.Test.YtoealglbimbbmaaGreatDoorBook
namespace Go.Proofs.YtoealglbimbbmaaGreatDoor.S
open Go Go.Proofs
set_option linter.unusedVariables false
set_option linter.unusedSimpArgs false

/-- a read set: its room, what was seen -/
def ReadsR (b : Nat) (s : Int × List TSeen) : Asn := exA fun v => star (pureA (Cells v [v])) (star (own b [i64 s.1, v]) (sl tSeenE v s.2))

def seenAt (xs : List TSeen) (k : Int) : Option Int := (xs.find? fun x => decide (x.stripe = k)).map (·.version)

def addErr (m : Int) (xs : List TSeen) (x : TSeen) : Int :=
  if x.stripe < 0 ∨ 16 ≤ x.stripe ∨ 4611686018427387904 ≤ x.version then 1 else
  match seenAt xs x.stripe with
  | some v => if v = x.version then 0 else 14
  | none => if (xs.length : Int) = m then 5 else 0
def addSeen (m : Int) (xs : List TSeen) (x : TSeen) : List TSeen :=
  if x.stripe < 0 ∨ 16 ≤ x.stripe ∨ 4611686018427387904 ≤ x.version then xs else
  match seenAt xs x.stripe with
  | some _ => xs
  | none => if (xs.length : Int) = m then xs else xs ++ [x]

def standOne (locks : List TLock) (x : TSeen) : Bool := match locks[x.stripe.toNat]? with
  | some l => !l.held && decide (l.version = x.version)
  | none => false
def stands (xs : List TSeen) (locks : List TLock) : Bool := xs.all (standOne locks)

section
variable {w0 : Base} {L M : List Asn} {K : KV} {F : World → Prop} {C : Asn → List Asn} {b : Nat} {m : Int} {xs : List TSeen}

theorem ReadsR_open : G w0 (ob ReadsR b (m, xs) :: M) F = ∀ v, Cells v [v] → G w0 (own b [i64 m, v] :: sl tSeenE v xs :: M) F := by
  rw [ob_eq, ReadsR]
  simp only [G_ex, G_star, G_pure]

theorem readsNew_core {n : Int} : (if (if (16 : Int) < n then (16 : Int) else n) > 1 then (if (16 : Int) < n then (16 : Int) else n) else 1) = held n 1 16 := by
  unfold held; split <;> split <;> (try split) <;> (try split) <;> omega

theorem s_reads_New {n : Int} (hK : ∀ b, G w0 (ob ReadsR b (held n 1 16, []) :: L) (K (ptr b 0))) : G w0 L (CP Tryz.prog Fn.reads_New [i64 n] K) := by
  refine C_reads_New ?_
  unfold S_reads_New
  try simp (maxSteps := 2000000) only [↓RG, RP, RB, BEq.rfl, Int.reduceEq, Int.reduceLT, Int.reduceLE, Nat.reduceEqDiff]
  rw [readsNew_core]
  refine G.nilsl tSeenE ?_
  refine G.box fun b => ?_
  have := hK b
  rw [ReadsR_open] at this
  exact this _ cells_slice

theorem s_reads_Reads_All [i : SelOb L ReadsR b (m, xs) C] (hl : xs.length ≤ 1000000) (hK : ∀ u, Cells u [u] → G w0 (sl tSeenE u xs :: L) (K u)) : G w0 L (CP Tryz.prog Fn.reads_Reads_All [ptr b 0] K) := by
  refine i.roN (fun M hK => ?_) hK
  rw [ReadsR_open]
  intro v hv
  refine C_reads_Reads_All ?_
  unfold S_reads_Reads_All
  try simp (maxSteps := 2000000) only [↓RG, RP, RB, BEq.rfl, Int.reduceEq, Int.reduceLT, Int.reduceLE, Nat.reduceEqDiff]
  refine s_slices_Clone_api_Seen_api_Seen hl fun u hu => ?_
  have := hK u hu
  rw [G_swap, ReadsR_open] at this
  exact G.sub (this v hv)

theorem seenAt_cons (x : TSeen) (xs : List TSeen) (k : Int) : seenAt (x :: xs) k = if x.stripe = k then some x.version else seenAt xs k := by
  unfold seenAt
  by_cases h : x.stripe = k <;> simp [List.find?_cons, h]

def gotV (o : Option Int) : Value := .tuple #[u64 (o.getD 0), .bool o.isSome]

theorem s_reads_Reads_Get {k : Int} [i : SelOb L ReadsR b (m, xs) C] (hl : xs.length ≤ 1000000) (hK : G w0 L (K (.tuple #[u64 ((seenAt xs k).getD 0), .bool (seenAt xs k).isSome]))) : G w0 L (CP Tryz.prog Fn.reads_Reads_Get [ptr b 0, i64 k] K) := by
  refine i.ro (fun M hK => ?_) hK
  rw [ReadsR_open] at *
  intro v hv
  refine C_reads_Reads_Get ?_
  unfold S_reads_Reads_Get
  try simp (maxSteps := 2000000) only [↓RG, RP, RB, BEq.rfl, Int.reduceEq, Int.reduceLT, Int.reduceLE, Nat.reduceEqDiff]
  refine G.loopc1 (fun j : Nat => i64 j) (fun j => j ≤ xs.length ∧ seenAt xs k = seenAt (xs.drop j) k) (fun j => xs.length - j) 0 rfl ⟨by omega, by simp⟩ ?_
  rintro j ⟨hj, hp⟩ J hJ
  try simp (maxSteps := 2000000) only [↓RG, RP, RB, BEq.rfl, Int.reduceEq, Int.reduceLT, Int.reduceLE, Nat.reduceEqDiff]
  refine G.cond (fun h => ?_) (fun h => ?_)
  · have hj2 : j < xs.length := by simpa using h
    have e := elem_of hj2
    rw [List.drop_eq_getElem_cons hj2, seenAt_cons] at hp
    try simp (maxSteps := 2000000) only [↓RG, RP, RB, BEq.rfl, Int.reduceEq, Int.reduceLT, Int.reduceLE, Nat.reduceEqDiff]
    refine G.new fun p => ?_
    try simp (maxSteps := 2000000) only [↓RG, RP, RB, BEq.rfl, Int.reduceEq, Int.reduceLT, Int.reduceLE, Nat.reduceEqDiff]
    refine G.cond (fun h => ?_) (fun h => ?_)
    · rw [if_pos (by simpa using h)] at hp
      try simp (maxSteps := 2000000) only [↓RG, RP, RB, BEq.rfl, Int.reduceEq, Int.reduceLT, Int.reduceLE, Nat.reduceEqDiff]
      have := hK v hv
      rw [hp] at this
      exact this.sub
    · rw [if_neg (by simpa using h)] at hp
      rw [wsucc (by omega)]
      exact (hJ (j + 1) ⟨hj2, hp⟩ (by omega)).sub
  · have : xs.drop j = [] := List.drop_eq_nil_of_le (by simpa using h)
    rw [this] at hp
    have := hK v hv
    rw [hp] at this
    exact this

theorem s_reads_Reads_Add {x : TSeen} [i : SelOb L ReadsR b (m, xs) C] (hl : xs.length ≤ 1000) (hK : G w0 (C (ob ReadsR b (m, addSeen m xs x))) (K (i64 (addErr m xs x)))) :
    G w0 L (CP Tryz.prog Fn.reads_Reads_Add [ptr b 0, .agg #[i64 x.stripe, u64 x.version]] K) := by
  refine i.use (fun M hK => ?_) hK
  refine C_reads_Reads_Add ?_
  unfold S_reads_Reads_Add
  try simp (maxSteps := 2000000) only [fuse_and, fuse_or, fuse_step, fuse_pair, fuse_in, andP_true]
  refine G.box fun p => ?_
  try simp (maxSteps := 2000000) only [↓RG, RP, RB, BEq.rfl, Int.reduceEq, Int.reduceLT, Int.reduceLE, Nat.reduceEqDiff]
  refine G.any (decide (16 ≤ x.stripe)) (fun _ K hK => by try simp (maxSteps := 2000000) only [↓RG, RP, RB, BEq.rfl, Int.reduceEq, Int.reduceLT, Int.reduceLE, Nat.reduceEqDiff]; exact hK) ?_
  refine G.any (decide (4611686018427387904 ≤ x.version)) (fun _ K hK => by try simp (maxSteps := 2000000) only [↓RG, RP, RB, BEq.rfl, Int.reduceEq, Int.reduceLT, Int.reduceLE, Nat.reduceEqDiff]; exact hK) ?_
  unfold addErr addSeen at hK
  refine G.cond (fun h => ?_) (fun h => ?_)
  · have h : x.stripe < 0 ∨ 16 ≤ x.stripe ∨ 4611686018427387904 ≤ x.version := by simpa [or_assoc] using h
    rw [if_pos h, if_pos h] at hK
    exact hK.sub
  · have h : ¬ (x.stripe < 0 ∨ 16 ≤ x.stripe ∨ 4611686018427387904 ≤ x.version) := by simp at h; omega
    rw [if_neg h, if_neg h] at hK
    try simp (maxSteps := 2000000) only [↓RG, RP, RB, BEq.rfl, Int.reduceEq, Int.reduceLT, Int.reduceLE, Nat.reduceEqDiff]
    refine s_reads_Reads_Get (xs := xs) (by omega) ?_
    cases hs : seenAt xs x.stripe with
    | some v =>
      simp only [hs] at hK
      try simp (maxSteps := 2000000) only [↓RG, RP, RB, BEq.rfl, Int.reduceEq, Int.reduceLT, Int.reduceLE, Nat.reduceEqDiff, Option.getD_some, Option.isSome_some]
      refine G.cond (fun h => ?_) (fun h => ?_)
      · rw [if_neg (by simpa using h)] at hK
        exact hK.sub
      · rw [if_pos (by simpa using h)] at hK
        exact hK.sub
    | none =>
      simp only [hs] at hK
      try simp (maxSteps := 2000000) only [↓RG, RP, RB, BEq.rfl, Int.reduceEq, Int.reduceLT, Int.reduceLE, Nat.reduceEqDiff, Option.isSome_none]
      refine G.drew ?_
      rw [G_swap, ReadsR_open]
      intro v hv
      try simp (maxSteps := 2000000) only [↓RG, RP, RB, BEq.rfl, Int.reduceEq, Int.reduceLT, Int.reduceLE, Nat.reduceEqDiff]
      refine G.cond (fun h => ?_) (fun h => ?_)
      · have h : (xs.length : Int) = m := by simpa using h
        rw [if_pos h, if_pos h, ReadsR_open] at hK
        exact (hK v hv).sub
      · have h : ¬ (xs.length : Int) = m := by simpa using h
        rw [if_neg h, if_neg h, ReadsR_open] at hK
        refine G.drew ?_
        try simp (maxSteps := 2000000) only [↓RG, RP, RB, BEq.rfl, Int.reduceEq, Int.reduceLT, Int.reduceLE, Nat.reduceEqDiff]
        refine G.build tSeenE [x] rfl (by decide) rfl fun y hy => ?_
        try simp (maxSteps := 2000000) only [↓RG, RP, RB, BEq.rfl, Int.reduceEq, Int.reduceLT, Int.reduceLE, Nat.reduceEqDiff]
        refine G.append (xs := xs) (ys := [x]) (by simp; omega) (by simp [maxLen]; omega) fun u hu => ?_
        try simp (maxSteps := 2000000) only [↓RG, RP, RB, BEq.rfl, Int.reduceEq, Int.reduceLT, Int.reduceLE, Nat.reduceEqDiff]
        exact (hK u hu).sub

theorem stands_cons (x : TSeen) (xs : List TSeen) (ls : List TLock) : stands (x :: xs) ls = (standOne ls x && stands xs ls) := rfl

end
end Go.Proofs.YtoealglbimbbmaaGreatDoor.S
