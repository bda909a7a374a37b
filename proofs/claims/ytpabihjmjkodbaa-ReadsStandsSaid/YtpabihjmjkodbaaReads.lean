/-
  CHAPTER 7: contracts of package reads.
-/
import Derived.Test.YtpabihjmjkodbaaBook
namespace Go.Proofs.Ytpabihjmjkodbaa.S
open Go Go.Proofs
set_option linter.unusedVariables false
set_option linter.unusedSimpArgs false

/-- a read set: its room, what was seen -/
def ReadsR (b : Nat) (s : Int × List TSeen) : Asn := exA fun v => star (pureA (Cells v [v])) (star (own b [i64 s.1, v]) (sl tSeenE v s.2))

def seenAt (xs : List TSeen) (k : Int) : Option Int := (xs.find? fun x => decide (x.stripe = k)).map (·.version)

def addErr (m : Int) (xs : List TSeen) (x : TSeen) : Int :=
  if x.stripe < 0 ∨ 16 ≤ x.stripe ∨ 4611686018427387904 ≤ x.version then 1 else
  match seenAt xs x.stripe with
  | some v => if v = x.version then 0 else 14
  | none => if (xs.length : Int) = m then 5 else 0
def addSeen (m : Int) (xs : List TSeen) (x : TSeen) : List TSeen :=
  if x.stripe < 0 ∨ 16 ≤ x.stripe ∨ 4611686018427387904 ≤ x.version then xs else
  match seenAt xs x.stripe with
  | some _ => xs
  | none => if (xs.length : Int) = m then xs else xs ++ [x]

def standOne (locks : List TLock) (x : TSeen) : Bool := match locks[x.stripe.toNat]? with
  | some l => !l.held && decide (l.version = x.version)
  | none => false
def stands (xs : List TSeen) (locks : List TLock) : Bool := xs.all (standOne locks)

def within (n lo hi : Int) : Int := lo + n % (hi - lo + 1)
theorem within_le {n lo hi : Int} (h : lo ≤ hi) : lo ≤ within n lo hi ∧ within n lo hi ≤ hi := by
  unfold within
  have h1 := Int.emod_nonneg n (show hi - lo + 1 ≠ 0 by omega)
  have h2 := Int.emod_lt_of_pos n (show 0 < hi - lo + 1 by omega)
  omega

section
variable {w0 : World} {L M : List Asn} {K : KV} {F : World → Prop} {C : Asn → List Asn} {b : Nat} {m : Int} {xs : List TSeen}

theorem s_book_Within {n lo hi : Int} (h1 : -4611686018427387904 ≤ lo) (h2 : lo ≤ hi) (h3 : hi ≤ 4611686018427387904) (hd : hi - lo ≤ 4611686018427387904) (hK : G w0 L (K (i64 (within n lo hi)))) : G w0 L (CP Try.prog Fn.book_Within [i64 n, i64 lo, i64 hi] K) := by
  refine C_book_Within ?_
  unfold S_book_Within
  have e1 : IntKind.wrap .i64 (IntKind.wrap .i64 (hi - lo) + 1) = hi - lo + 1 := by rw [wi64 (n := hi - lo) (by omega) (by omega), wi64 (by omega) (by omega)]
  have ne : NeZ (hi - lo + 1) := ⟨by omega⟩
  have hm : hi - lo + 1 > 0 := by omega
  have t1 := Int.tmod_lt_of_pos n hm
  have t2 := Int.lt_tmod_of_pos n hm
  have t3 : n % (hi - lo + 1) = if n.tmod (hi - lo + 1) < 0 then n.tmod (hi - lo + 1) + (hi - lo + 1) else n.tmod (hi - lo + 1) := by
    rw [Int.emod_eq_tmod]
    by_cases h0 : 0 ≤ n
    · have := Int.tmod_nonneg (hi - lo + 1) h0
      simp [h0]; omega
    · have h00 := Int.tmod_nonneg (hi - lo + 1) (show 0 ≤ -n by omega)
      rw [Int.neg_tmod] at h00
      have : n.tmod (hi - lo + 1) ≤ 0 := by omega
      by_cases hd : hi - lo + 1 ∣ n
      · have := Int.tmod_eq_zero_of_dvd hd
        simp [hd, this]
      · have hne : n.tmod (hi - lo + 1) ≠ 0 := fun h => hd (Int.dvd_of_tmod_eq_zero h)
        simp [h0, hd]; omega
  unfold within at hK
  try simp only [↓RG, RP, true_and, and_true, beq_true, beq_false, Bool.true_beq, Bool.false_beq, BEq.rfl, Int.reduceEq, Int.reduceLT, Int.reduceLE, Nat.reduceEqDiff, decide_true, decide_false, Bool.not_true, Bool.not_false, Bool.and_true, Bool.true_and, Bool.and_false, Bool.false_and, Bool.or_true, Bool.true_or, Bool.or_false, Bool.false_or, Bool.not_not]
  simp only [e1]
  try simp only [↓RG, RP, true_and, and_true, beq_true, beq_false, Bool.true_beq, Bool.false_beq, BEq.rfl, Int.reduceEq, Int.reduceLT, Int.reduceLE, Nat.reduceEqDiff, decide_true, decide_false, Bool.not_true, Bool.not_false, Bool.and_true, Bool.true_and, Bool.and_false, Bool.false_and, Bool.or_true, Bool.true_or, Bool.or_false, Bool.false_or, Bool.not_not]
  refine G.join1 (fun x : Int => i64 x) (fun _ => L) (fun x => x = n % (hi - lo + 1)) (fun x hx => ?_) (fun J hJ => ?_)
  · subst hx
    have h4 := Int.emod_nonneg n (show hi - lo + 1 ≠ 0 by omega)
    have h5 := Int.emod_lt_of_pos n hm
    try simp only [↓RG, RP, true_and, and_true, beq_true, beq_false, Bool.true_beq, Bool.false_beq, BEq.rfl, Int.reduceEq, Int.reduceLT, Int.reduceLE, Nat.reduceEqDiff, decide_true, decide_false, Bool.not_true, Bool.not_false, Bool.and_true, Bool.true_and, Bool.and_false, Bool.false_and, Bool.or_true, Bool.true_or, Bool.or_false, Bool.false_or, Bool.not_not]
    rw [wi64 (by omega) (by omega)]
    exact hK
  · refine G.cond (fun h => ?_) (fun h => ?_)
    · have h : n.tmod (hi - lo + 1) < 0 := by simpa using h
      try simp only [↓RG, RP, true_and, and_true, beq_true, beq_false, Bool.true_beq, Bool.false_beq, BEq.rfl, Int.reduceEq, Int.reduceLT, Int.reduceLE, Nat.reduceEqDiff, decide_true, decide_false, Bool.not_true, Bool.not_false, Bool.and_true, Bool.true_and, Bool.and_false, Bool.false_and, Bool.or_true, Bool.true_or, Bool.or_false, Bool.false_or, Bool.not_not]
      rw [wi64 (n := n.tmod (hi - lo + 1) + hi) (by omega) (by omega), wi64 (n := n.tmod (hi - lo + 1) + hi - lo) (by omega) (by omega), wi64 (by omega) (by omega)]
      exact hJ _ (by rw [t3, if_pos h]; omega)
    · have h : ¬ n.tmod (hi - lo + 1) < 0 := by simpa using h
      exact hJ _ (by rw [t3, if_neg h])

theorem ReadsR_open : G w0 (ob ReadsR b (m, xs) :: M) F = ∀ v, Cells v [v] → G w0 (own b [i64 m, v] :: sl tSeenE v xs :: M) F := by
  rw [ob_eq, ReadsR]
  simp only [G_ex, G_star, G_pure]

theorem readsNew_core {n : Int} : (if (if (16 : Int) < n then (16 : Int) else n) > 1 then (if (16 : Int) < n then (16 : Int) else n) else 1) = held n 1 16 := by
  unfold held; split <;> split <;> (try split) <;> (try split) <;> omega

theorem s_reads_New {n : Int} (hK : ∀ b, G w0 (ob ReadsR b (held n 1 16, []) :: L) (K (ptr b 0))) : G w0 L (CP Try.prog Fn.reads_New [i64 n] K) := by
  refine C_reads_New ?_
  unfold S_reads_New
  try simp only [↓RG, RP, true_and, and_true, beq_true, beq_false, Bool.true_beq, Bool.false_beq, BEq.rfl, Int.reduceEq, Int.reduceLT, Int.reduceLE, Nat.reduceEqDiff, decide_true, decide_false, Bool.not_true, Bool.not_false, Bool.and_true, Bool.true_and, Bool.and_false, Bool.false_and, Bool.or_true, Bool.true_or, Bool.or_false, Bool.false_or, Bool.not_not]
  rw [readsNew_core]
  refine G.nilsl tSeenE ?_
  refine G.box fun b => ?_
  have := hK b
  rw [ReadsR_open] at this
  exact this _ cells_slice

theorem s_ref7_NewReads {n : Int} (hK : ∀ b, G w0 (ob ReadsR b (held n 1 16, []) :: L) (K (ptr b 0))) : G w0 L (CP Try.prog Fn.ref7_NewReads [i64 n] K) := by
  refine C_ref7_NewReads ?_
  unfold S_ref7_NewReads
  refine s_ref1_Held ?_
  try simp only [↓RG, RP, true_and, and_true, beq_true, beq_false, Bool.true_beq, Bool.false_beq, BEq.rfl, Int.reduceEq, Int.reduceLT, Int.reduceLE, Nat.reduceEqDiff, decide_true, decide_false, Bool.not_true, Bool.not_false, Bool.and_true, Bool.true_and, Bool.and_false, Bool.false_and, Bool.or_true, Bool.true_or, Bool.or_false, Bool.false_or, Bool.not_not]
  refine G.nilsl tSeenE ?_
  refine G.box fun b => ?_
  have := hK b
  rw [ReadsR_open] at this
  exact this _ cells_slice

theorem s_reads_Reads_Len [i : SelOb L ReadsR b (m, xs) C] (hK : G w0 L (K (i64 xs.length))) : G w0 L (CP Try.prog Fn.reads_Reads_Len [ptr b 0] K) := by
  refine i.ro (fun M hK => ?_) hK
  rw [ReadsR_open] at *
  intro v hv
  refine C_reads_Reads_Len ?_
  unfold S_reads_Reads_Len
  try simp only [↓RG, RP, true_and, and_true, beq_true, beq_false, Bool.true_beq, Bool.false_beq, BEq.rfl, Int.reduceEq, Int.reduceLT, Int.reduceLE, Nat.reduceEqDiff, decide_true, decide_false, Bool.not_true, Bool.not_false, Bool.and_true, Bool.true_and, Bool.and_false, Bool.false_and, Bool.or_true, Bool.true_or, Bool.or_false, Bool.false_or, Bool.not_not]
  exact hK v hv

theorem s_reads_Reads_All [i : SelOb L ReadsR b (m, xs) C] (hl : xs.length ≤ 1000000) (hK : ∀ u, Cells u [u] → G w0 (sl tSeenE u xs :: L) (K u)) : G w0 L (CP Try.prog Fn.reads_Reads_All [ptr b 0] K) := by
  refine i.roN (fun M hK => ?_) hK
  rw [ReadsR_open]
  intro v hv
  refine C_reads_Reads_All ?_
  unfold S_reads_Reads_All
  try simp only [↓RG, RP, true_and, and_true, beq_true, beq_false, Bool.true_beq, Bool.false_beq, BEq.rfl, Int.reduceEq, Int.reduceLT, Int.reduceLE, Nat.reduceEqDiff, decide_true, decide_false, Bool.not_true, Bool.not_false, Bool.and_true, Bool.true_and, Bool.and_false, Bool.false_and, Bool.or_true, Bool.true_or, Bool.or_false, Bool.false_or, Bool.not_not]
  refine s_slices_Clone_api_Seen_api_Seen hl fun u hu => ?_
  have := hK u hu
  rw [G_swap, ReadsR_open] at this
  exact G.sub (this v hv)

theorem seenAt_cons (x : TSeen) (xs : List TSeen) (k : Int) : seenAt (x :: xs) k = if x.stripe = k then some x.version else seenAt xs k := by
  unfold seenAt
  by_cases h : x.stripe = k <;> simp [List.find?_cons, h]

def gotV (o : Option Int) : Value := .tuple #[u64 (o.getD 0), .bool o.isSome]

theorem s_reads_Reads_Get {k : Int} [i : SelOb L ReadsR b (m, xs) C] (hl : xs.length ≤ 1000000) (hK : G w0 L (K (.tuple #[u64 ((seenAt xs k).getD 0), .bool (seenAt xs k).isSome]))) : G w0 L (CP Try.prog Fn.reads_Reads_Get [ptr b 0, i64 k] K) := by
  refine i.ro (fun M hK => ?_) hK
  rw [ReadsR_open] at *
  intro v hv
  refine C_reads_Reads_Get ?_
  unfold S_reads_Reads_Get
  try simp only [↓RG, RP, true_and, and_true, beq_true, beq_false, Bool.true_beq, Bool.false_beq, BEq.rfl, Int.reduceEq, Int.reduceLT, Int.reduceLE, Nat.reduceEqDiff, decide_true, decide_false, Bool.not_true, Bool.not_false, Bool.and_true, Bool.true_and, Bool.and_false, Bool.false_and, Bool.or_true, Bool.true_or, Bool.or_false, Bool.false_or, Bool.not_not]
  refine G.loopc1 (fun j : Nat => i64 j) (fun j => j ≤ xs.length ∧ seenAt xs k = seenAt (xs.drop j) k) (fun j => xs.length - j) 0 rfl ⟨by omega, by simp⟩ ?_
  rintro j ⟨hj, hp⟩ J hJ
  try simp only [↓RG, RP, true_and, and_true, beq_true, beq_false, Bool.true_beq, Bool.false_beq, BEq.rfl, Int.reduceEq, Int.reduceLT, Int.reduceLE, Nat.reduceEqDiff, decide_true, decide_false, Bool.not_true, Bool.not_false, Bool.and_true, Bool.true_and, Bool.and_false, Bool.false_and, Bool.or_true, Bool.true_or, Bool.or_false, Bool.false_or, Bool.not_not]
  refine G.cond (fun h => ?_) (fun h => ?_)
  · have hj2 : j < xs.length := by simpa using h
    have e := elem_of hj2
    rw [List.drop_eq_getElem_cons hj2, seenAt_cons] at hp
    try simp only [↓RG, RP, true_and, and_true, beq_true, beq_false, Bool.true_beq, Bool.false_beq, BEq.rfl, Int.reduceEq, Int.reduceLT, Int.reduceLE, Nat.reduceEqDiff, decide_true, decide_false, Bool.not_true, Bool.not_false, Bool.and_true, Bool.true_and, Bool.and_false, Bool.false_and, Bool.or_true, Bool.true_or, Bool.or_false, Bool.false_or, Bool.not_not]
    refine G.new fun p => ?_
    try simp only [↓RG, RP, true_and, and_true, beq_true, beq_false, Bool.true_beq, Bool.false_beq, BEq.rfl, Int.reduceEq, Int.reduceLT, Int.reduceLE, Nat.reduceEqDiff, decide_true, decide_false, Bool.not_true, Bool.not_false, Bool.and_true, Bool.true_and, Bool.and_false, Bool.false_and, Bool.or_true, Bool.true_or, Bool.or_false, Bool.false_or, Bool.not_not]
    refine G.cond (fun h => ?_) (fun h => ?_)
    · rw [if_pos (by simpa using h)] at hp
      try simp only [↓RG, RP, true_and, and_true, beq_true, beq_false, Bool.true_beq, Bool.false_beq, BEq.rfl, Int.reduceEq, Int.reduceLT, Int.reduceLE, Nat.reduceEqDiff, decide_true, decide_false, Bool.not_true, Bool.not_false, Bool.and_true, Bool.true_and, Bool.and_false, Bool.false_and, Bool.or_true, Bool.true_or, Bool.or_false, Bool.false_or, Bool.not_not]
      have := hK v hv
      rw [hp] at this
      exact this.sub
    · rw [if_neg (by simpa using h)] at hp
      rw [wsucc (by omega)]
      exact (hJ (j + 1) ⟨hj2, hp⟩ (by omega)).sub
  · have : xs.drop j = [] := List.drop_eq_nil_of_le (by simpa using h)
    rw [this] at hp
    have := hK v hv
    rw [hp] at this
    exact this

theorem s_reads_Reads_Add {x : TSeen} [i : SelOb L ReadsR b (m, xs) C] (hl : xs.length ≤ 1000) (hK : G w0 (C (ob ReadsR b (m, addSeen m xs x))) (K (i64 (addErr m xs x)))) :
    G w0 L (CP Try.prog Fn.reads_Reads_Add [ptr b 0, .agg #[i64 x.stripe, u64 x.version]] K) := by
  refine i.use (fun M hK => ?_) hK
  refine C_reads_Reads_Add ?_
  unfold S_reads_Reads_Add
  try simp only [fuse_and, fuse_or, fuse_step, fuse_pair, fuse_in, andP_true]
  refine G.box fun p => ?_
  try simp only [↓RG, RP, true_and, and_true, beq_true, beq_false, Bool.true_beq, Bool.false_beq, BEq.rfl, Int.reduceEq, Int.reduceLT, Int.reduceLE, Nat.reduceEqDiff, decide_true, decide_false, Bool.not_true, Bool.not_false, Bool.and_true, Bool.true_and, Bool.and_false, Bool.false_and, Bool.or_true, Bool.true_or, Bool.or_false, Bool.false_or, Bool.not_not]
  refine G.any (decide (16 ≤ x.stripe)) (fun _ K hK => by try simp only [↓RG, RP, true_and, and_true, beq_true, beq_false, Bool.true_beq, Bool.false_beq, BEq.rfl, Int.reduceEq, Int.reduceLT, Int.reduceLE, Nat.reduceEqDiff, decide_true, decide_false, Bool.not_true, Bool.not_false, Bool.and_true, Bool.true_and, Bool.and_false, Bool.false_and, Bool.or_true, Bool.true_or, Bool.or_false, Bool.false_or, Bool.not_not]; exact hK) ?_
  refine G.any (decide (4611686018427387904 ≤ x.version)) (fun _ K hK => by try simp only [↓RG, RP, true_and, and_true, beq_true, beq_false, Bool.true_beq, Bool.false_beq, BEq.rfl, Int.reduceEq, Int.reduceLT, Int.reduceLE, Nat.reduceEqDiff, decide_true, decide_false, Bool.not_true, Bool.not_false, Bool.and_true, Bool.true_and, Bool.and_false, Bool.false_and, Bool.or_true, Bool.true_or, Bool.or_false, Bool.false_or, Bool.not_not]; exact hK) ?_
  unfold addErr addSeen at hK
  refine G.cond (fun h => ?_) (fun h => ?_)
  · have h : x.stripe < 0 ∨ 16 ≤ x.stripe ∨ 4611686018427387904 ≤ x.version := by simpa [or_assoc] using h
    rw [if_pos h, if_pos h] at hK
    exact hK.sub
  · have h : ¬ (x.stripe < 0 ∨ 16 ≤ x.stripe ∨ 4611686018427387904 ≤ x.version) := by simp at h; omega
    rw [if_neg h, if_neg h] at hK
    try simp only [↓RG, RP, true_and, and_true, beq_true, beq_false, Bool.true_beq, Bool.false_beq, BEq.rfl, Int.reduceEq, Int.reduceLT, Int.reduceLE, Nat.reduceEqDiff, decide_true, decide_false, Bool.not_true, Bool.not_false, Bool.and_true, Bool.true_and, Bool.and_false, Bool.false_and, Bool.or_true, Bool.true_or, Bool.or_false, Bool.false_or, Bool.not_not]
    refine s_reads_Reads_Get (xs := xs) (by omega) ?_
    cases hs : seenAt xs x.stripe with
    | some v =>
      simp only [hs] at hK
      try simp only [↓RG, RP, true_and, and_true, beq_true, beq_false, Bool.true_beq, Bool.false_beq, BEq.rfl, Int.reduceEq, Int.reduceLT, Int.reduceLE, Nat.reduceEqDiff, decide_true, decide_false, Bool.not_true, Bool.not_false, Bool.and_true, Bool.true_and, Bool.and_false, Bool.false_and, Bool.or_true, Bool.true_or, Bool.or_false, Bool.false_or, Bool.not_not, Option.getD_some, Option.isSome_some]
      refine G.cond (fun h => ?_) (fun h => ?_)
      · rw [if_neg (by simpa using h)] at hK
        exact hK.sub
      · rw [if_pos (by simpa using h)] at hK
        exact hK.sub
    | none =>
      simp only [hs] at hK
      try simp only [↓RG, RP, true_and, and_true, beq_true, beq_false, Bool.true_beq, Bool.false_beq, BEq.rfl, Int.reduceEq, Int.reduceLT, Int.reduceLE, Nat.reduceEqDiff, decide_true, decide_false, Bool.not_true, Bool.not_false, Bool.and_true, Bool.true_and, Bool.and_false, Bool.false_and, Bool.or_true, Bool.true_or, Bool.or_false, Bool.false_or, Bool.not_not, Option.isSome_none]
      refine G.drew ?_
      rw [G_swap, ReadsR_open]
      intro v hv
      try simp only [↓RG, RP, true_and, and_true, beq_true, beq_false, Bool.true_beq, Bool.false_beq, BEq.rfl, Int.reduceEq, Int.reduceLT, Int.reduceLE, Nat.reduceEqDiff, decide_true, decide_false, Bool.not_true, Bool.not_false, Bool.and_true, Bool.true_and, Bool.and_false, Bool.false_and, Bool.or_true, Bool.true_or, Bool.or_false, Bool.false_or, Bool.not_not]
      refine G.cond (fun h => ?_) (fun h => ?_)
      · have h : (xs.length : Int) = m := by simpa using h
        rw [if_pos h, if_pos h, ReadsR_open] at hK
        exact (hK v hv).sub
      · have h : ¬ (xs.length : Int) = m := by simpa using h
        rw [if_neg h, if_neg h, ReadsR_open] at hK
        refine G.drew ?_
        try simp only [↓RG, RP, true_and, and_true, beq_true, beq_false, Bool.true_beq, Bool.false_beq, BEq.rfl, Int.reduceEq, Int.reduceLT, Int.reduceLE, Nat.reduceEqDiff, decide_true, decide_false, Bool.not_true, Bool.not_false, Bool.and_true, Bool.true_and, Bool.and_false, Bool.false_and, Bool.or_true, Bool.true_or, Bool.or_false, Bool.false_or, Bool.not_not]
        refine G.build tSeenE [x] rfl (by decide) rfl fun y hy => ?_
        try simp only [↓RG, RP, true_and, and_true, beq_true, beq_false, Bool.true_beq, Bool.false_beq, BEq.rfl, Int.reduceEq, Int.reduceLT, Int.reduceLE, Nat.reduceEqDiff, decide_true, decide_false, Bool.not_true, Bool.not_false, Bool.and_true, Bool.true_and, Bool.and_false, Bool.false_and, Bool.or_true, Bool.true_or, Bool.or_false, Bool.false_or, Bool.not_not]
        refine G.append (xs := xs) (ys := [x]) (by simp; omega) (by simp [maxLen]; omega) fun u hu => ?_
        try simp only [↓RG, RP, true_and, and_true, beq_true, beq_false, Bool.true_beq, Bool.false_beq, BEq.rfl, Int.reduceEq, Int.reduceLT, Int.reduceLE, Nat.reduceEqDiff, decide_true, decide_false, Bool.not_true, Bool.not_false, Bool.and_true, Bool.true_and, Bool.and_false, Bool.false_and, Bool.or_true, Bool.true_or, Bool.or_false, Bool.false_or, Bool.not_not]
        exact (hK u hu).sub

theorem s_ref7_Reads_Add {x : TSeen} [i : SelOb L ReadsR b (m, xs) C] (hl : xs.length ≤ 1000) (hm : (xs.length : Int) ≤ m) (hK : G w0 (C (ob ReadsR b (m, addSeen m xs x))) (K (i64 (addErr m xs x)))) :
    G w0 L (CP Try.prog Fn.ref7_Reads_Add [ptr b 0, .agg #[i64 x.stripe, u64 x.version]] K) := by
  refine i.use (fun M hK => ?_) hK
  refine C_ref7_Reads_Add ?_
  unfold S_ref7_Reads_Add
  try simp only [fuse_and, fuse_or, fuse_step, fuse_pair, fuse_in, andP_true]
  refine G.box fun p => ?_
  try simp only [↓RG, RP, true_and, and_true, beq_true, beq_false, Bool.true_beq, Bool.false_beq, BEq.rfl, Int.reduceEq, Int.reduceLT, Int.reduceLE, Nat.reduceEqDiff, decide_true, decide_false, Bool.not_true, Bool.not_false, Bool.and_true, Bool.true_and, Bool.and_false, Bool.false_and, Bool.or_true, Bool.true_or, Bool.or_false, Bool.false_or, Bool.not_not]
  refine G.any (decide (16 ≤ x.stripe)) (fun _ K hK => by try simp only [↓RG, RP, true_and, and_true, beq_true, beq_false, Bool.true_beq, Bool.false_beq, BEq.rfl, Int.reduceEq, Int.reduceLT, Int.reduceLE, Nat.reduceEqDiff, decide_true, decide_false, Bool.not_true, Bool.not_false, Bool.and_true, Bool.true_and, Bool.and_false, Bool.false_and, Bool.or_true, Bool.true_or, Bool.or_false, Bool.false_or, Bool.not_not]; exact hK) ?_
  refine G.any (decide (4611686018427387904 ≤ x.version)) (fun _ K hK => by try simp only [↓RG, RP, true_and, and_true, beq_true, beq_false, Bool.true_beq, Bool.false_beq, BEq.rfl, Int.reduceEq, Int.reduceLT, Int.reduceLE, Nat.reduceEqDiff, decide_true, decide_false, Bool.not_true, Bool.not_false, Bool.and_true, Bool.true_and, Bool.and_false, Bool.false_and, Bool.or_true, Bool.true_or, Bool.or_false, Bool.false_or, Bool.not_not]; exact hK) ?_
  unfold addErr addSeen at hK
  refine G.cond (fun h => ?_) (fun h => ?_)
  · have h : x.stripe < 0 ∨ 16 ≤ x.stripe ∨ 4611686018427387904 ≤ x.version := by simpa [or_assoc] using h
    rw [if_pos h, if_pos h] at hK
    exact hK.sub
  · have h : ¬ (x.stripe < 0 ∨ 16 ≤ x.stripe ∨ 4611686018427387904 ≤ x.version) := by simp at h; omega
    rw [if_neg h, if_neg h] at hK
    rw [G_swap, ReadsR_open]
    intro v hv
    refine G.loopc1 (fun j : Nat => i64 j) (fun j => j ≤ xs.length ∧ seenAt xs x.stripe = seenAt (xs.drop j) x.stripe) (fun j => xs.length - j) 0 rfl ⟨by omega, by simp⟩ ?_
    rintro j ⟨hj, hp⟩ J hJ
    try simp only [↓RG, RP, true_and, and_true, beq_true, beq_false, Bool.true_beq, Bool.false_beq, BEq.rfl, Int.reduceEq, Int.reduceLT, Int.reduceLE, Nat.reduceEqDiff, decide_true, decide_false, Bool.not_true, Bool.not_false, Bool.and_true, Bool.true_and, Bool.and_false, Bool.false_and, Bool.or_true, Bool.true_or, Bool.or_false, Bool.false_or, Bool.not_not]
    refine G.cond (fun h => ?_) (fun h => ?_)
    · have hj2 : j < xs.length := by simpa using h
      have e := elem_of hj2
      rw [List.drop_eq_getElem_cons hj2, seenAt_cons] at hp
      refine G.drew ?_
      try simp only [↓RG, RP, true_and, and_true, beq_true, beq_false, Bool.true_beq, Bool.false_beq, BEq.rfl, Int.reduceEq, Int.reduceLT, Int.reduceLE, Nat.reduceEqDiff, decide_true, decide_false, Bool.not_true, Bool.not_false, Bool.and_true, Bool.true_and, Bool.and_false, Bool.false_and, Bool.or_true, Bool.true_or, Bool.or_false, Bool.false_or, Bool.not_not]
      refine G.all (decide (xs[j].version = x.version)) (fun _ K hK => by try simp only [↓RG, RP, true_and, and_true, beq_true, beq_false, Bool.true_beq, Bool.false_beq, BEq.rfl, Int.reduceEq, Int.reduceLT, Int.reduceLE, Nat.reduceEqDiff, decide_true, decide_false, Bool.not_true, Bool.not_false, Bool.and_true, Bool.true_and, Bool.and_false, Bool.false_and, Bool.or_true, Bool.true_or, Bool.or_false, Bool.false_or, Bool.not_not]; exact hK) ?_
      by_cases hst : xs[j].stripe = x.stripe
      · rw [if_pos hst] at hp
        simp only [hp] at hK
        rw [ReadsR_open] at hK
        try simp only [↓RG, RP, true_and, and_true, beq_true, beq_false, Bool.true_beq, Bool.false_beq, BEq.rfl, Int.reduceEq, Int.reduceLT, Int.reduceLE, Nat.reduceEqDiff, decide_true, decide_false, Bool.not_true, Bool.not_false, Bool.and_true, Bool.true_and, Bool.and_false, Bool.false_and, Bool.or_true, Bool.true_or, Bool.or_false, Bool.false_or, Bool.not_not, hst]
        refine G.cond (fun h => ?_) (fun h => ?_)
        · rw [if_pos (by simpa using h)] at hK
          exact (hK v hv).sub
        · rw [if_neg (by simpa using h)] at hK
          refine G.drew ?_
          try simp only [↓RG, RP, true_and, and_true, beq_true, beq_false, Bool.true_beq, Bool.false_beq, BEq.rfl, Int.reduceEq, Int.reduceLT, Int.reduceLE, Nat.reduceEqDiff, decide_true, decide_false, Bool.not_true, Bool.not_false, Bool.and_true, Bool.true_and, Bool.and_false, Bool.false_and, Bool.or_true, Bool.true_or, Bool.or_false, Bool.false_or, Bool.not_not, hst]
          exact (hK v hv).sub
      · rw [if_neg hst] at hp
        try simp only [↓RG, RP, true_and, and_true, beq_true, beq_false, Bool.true_beq, Bool.false_beq, BEq.rfl, Int.reduceEq, Int.reduceLT, Int.reduceLE, Nat.reduceEqDiff, decide_true, decide_false, Bool.not_true, Bool.not_false, Bool.and_true, Bool.true_and, Bool.and_false, Bool.false_and, Bool.or_true, Bool.true_or, Bool.or_false, Bool.false_or, Bool.not_not, hst]
        refine G.drew ?_
        try simp only [↓RG, RP, true_and, and_true, beq_true, beq_false, Bool.true_beq, Bool.false_beq, BEq.rfl, Int.reduceEq, Int.reduceLT, Int.reduceLE, Nat.reduceEqDiff, decide_true, decide_false, Bool.not_true, Bool.not_false, Bool.and_true, Bool.true_and, Bool.and_false, Bool.false_and, Bool.or_true, Bool.true_or, Bool.or_false, Bool.false_or, Bool.not_not, hst]
        rw [wsucc (by omega)]
        exact hJ (j + 1) ⟨hj2, hp⟩ (by omega)
    · have : xs.drop j = [] := List.drop_eq_nil_of_le (by simpa using h)
      rw [this] at hp
      have hp : seenAt xs x.stripe = none := hp
      simp only [hp] at hK
      refine G.drew ?_
      try simp only [↓RG, RP, true_and, and_true, beq_true, beq_false, Bool.true_beq, Bool.false_beq, BEq.rfl, Int.reduceEq, Int.reduceLT, Int.reduceLE, Nat.reduceEqDiff, decide_true, decide_false, Bool.not_true, Bool.not_false, Bool.and_true, Bool.true_and, Bool.and_false, Bool.false_and, Bool.or_true, Bool.true_or, Bool.or_false, Bool.false_or, Bool.not_not]
      refine G.cond (fun h => ?_) (fun h => ?_)
      · have h : (xs.length : Int) = m := by simp at h; omega
        rw [if_pos h, if_pos h, ReadsR_open] at hK
        exact (hK v hv).sub
      · have h : ¬ (xs.length : Int) = m := by simp at h; omega
        rw [if_neg h, if_neg h, ReadsR_open] at hK
        refine G.drew ?_
        try simp only [↓RG, RP, true_and, and_true, beq_true, beq_false, Bool.true_beq, Bool.false_beq, BEq.rfl, Int.reduceEq, Int.reduceLT, Int.reduceLE, Nat.reduceEqDiff, decide_true, decide_false, Bool.not_true, Bool.not_false, Bool.and_true, Bool.true_and, Bool.and_false, Bool.false_and, Bool.or_true, Bool.true_or, Bool.or_false, Bool.false_or, Bool.not_not]
        refine G.build tSeenE [x] rfl (by decide) rfl fun y hy => ?_
        try simp only [↓RG, RP, true_and, and_true, beq_true, beq_false, Bool.true_beq, Bool.false_beq, BEq.rfl, Int.reduceEq, Int.reduceLT, Int.reduceLE, Nat.reduceEqDiff, decide_true, decide_false, Bool.not_true, Bool.not_false, Bool.and_true, Bool.true_and, Bool.and_false, Bool.false_and, Bool.or_true, Bool.true_or, Bool.or_false, Bool.false_or, Bool.not_not]
        refine G.append (xs := xs) (ys := [x]) (by simp; omega) (by simp [maxLen]; omega) fun u hu => ?_
        try simp only [↓RG, RP, true_and, and_true, beq_true, beq_false, Bool.true_beq, Bool.false_beq, BEq.rfl, Int.reduceEq, Int.reduceLT, Int.reduceLE, Nat.reduceEqDiff, decide_true, decide_false, Bool.not_true, Bool.not_false, Bool.and_true, Bool.true_and, Bool.and_false, Bool.false_and, Bool.or_true, Bool.true_or, Bool.or_false, Bool.false_or, Bool.not_not]
        exact (hK u hu).sub

theorem stands_cons (x : TSeen) (xs : List TSeen) (ls : List TLock) : stands (x :: xs) ls = (standOne ls x && stands xs ls) := rfl

theorem s_ref7_Stands {v lv : Value} {ls : List TLock} [r1 : Rd w0 L v tSeenE 2 xs] [r2 : Rd w0 L lv tLockE 3 ls] (hl : xs.length ≤ 1000000) (h0 : ∀ x ∈ xs, 0 ≤ x.stripe) (hK : G w0 L (K (.bool (stands xs ls)))) : G w0 L (CP Try.prog Fn.ref7_Stands [v, lv] K) := by
  refine C_ref7_Stands ?_
  unfold S_ref7_Stands
  refine G.loopc1 (fun j : Nat => i64 j) (fun j => j ≤ xs.length ∧ stands xs ls = stands (xs.drop j) ls) (fun j => xs.length - j) 0 rfl ⟨by omega, by simp⟩ ?_
  rintro j ⟨hj, hp⟩ J hJ
  try simp only [fuse_and, fuse_or, fuse_step, fuse_pair, fuse_in, andP_true]
  try simp only [↓RG, RP, true_and, and_true, beq_true, beq_false, Bool.true_beq, Bool.false_beq, BEq.rfl, Int.reduceEq, Int.reduceLT, Int.reduceLE, Nat.reduceEqDiff, decide_true, decide_false, Bool.not_true, Bool.not_false, Bool.and_true, Bool.true_and, Bool.and_false, Bool.false_and, Bool.or_true, Bool.true_or, Bool.or_false, Bool.false_or, Bool.not_not]
  refine G.cond (fun h => ?_) (fun h => ?_)
  · have hj2 : j < xs.length := by simpa using h
    have e := elem_of hj2
    rw [List.drop_eq_getElem_cons hj2, stands_cons] at hp
    have hn := h0 _ (List.getElem_mem hj2)
    obtain ⟨k, hk⟩ := Int.eq_ofNat_of_zero_le hn
    have ix : IxI xs[j].stripe k := ⟨hk⟩
    have hlt : decide (xs[j].stripe < 0) = false := by simp; omega
    try simp only [↓RG, RP, true_and, and_true, beq_true, beq_false, Bool.true_beq, Bool.false_beq, BEq.rfl, Int.reduceEq, Int.reduceLT, Int.reduceLE, Nat.reduceEqDiff, decide_true, decide_false, Bool.not_true, Bool.not_false, Bool.and_true, Bool.true_and, Bool.and_false, Bool.false_and, Bool.or_true, Bool.true_or, Bool.or_false, Bool.false_or, Bool.not_not]
    refine G.drew ?_
    try simp only [↓RG, RP, true_and, and_true, beq_true, beq_false, Bool.true_beq, Bool.false_beq, BEq.rfl, Int.reduceEq, Int.reduceLT, Int.reduceLE, Nat.reduceEqDiff, decide_true, decide_false, Bool.not_true, Bool.not_false, Bool.and_true, Bool.true_and, Bool.and_false, Bool.false_and, Bool.or_true, Bool.true_or, Bool.or_false, Bool.false_or, Bool.not_not, hlt]
    by_cases hk2 : k < ls.length
    · have e2 := elem_of hk2
      have h3 : decide ((ls.length : Int) ≤ xs[j].stripe) = false := by simp; omega
      have h4 : standOne ls xs[j] = (!ls[k].held && decide (ls[k].version = xs[j].version)) := by unfold standOne; rw [hk]; simp [hk2]
      rw [h4] at hp
      try simp only [↓RG, RP, true_and, and_true, beq_true, beq_false, Bool.true_beq, Bool.false_beq, BEq.rfl, Int.reduceEq, Int.reduceLT, Int.reduceLE, Nat.reduceEqDiff, decide_true, decide_false, Bool.not_true, Bool.not_false, Bool.and_true, Bool.true_and, Bool.and_false, Bool.false_and, Bool.or_true, Bool.true_or, Bool.or_false, Bool.false_or, Bool.not_not, h3]
      refine G.any (!decide (ls[k].version = xs[j].version)) (fun _ K hK => by try simp only [↓RG, RP, true_and, and_true, beq_true, beq_false, Bool.true_beq, Bool.false_beq, BEq.rfl, Int.reduceEq, Int.reduceLT, Int.reduceLE, Nat.reduceEqDiff, decide_true, decide_false, Bool.not_true, Bool.not_false, Bool.and_true, Bool.true_and, Bool.and_false, Bool.false_and, Bool.or_true, Bool.true_or, Bool.or_false, Bool.false_or, Bool.not_not]; exact hK) ?_
      refine G.cond (fun h => ?_) (fun h => ?_)
      · have : stands xs ls = false := by rw [hp]; simp at h ⊢; intro h5; rcases h with h | h <;> simp_all
        rwa [this] at hK
      · rw [wsucc (by omega)]
        refine hJ (j + 1) ⟨hj2, ?_⟩ (by omega)
        rw [hp]; simp at h; simp [h]
    · have h3 : decide ((ls.length : Int) ≤ xs[j].stripe) = true := by simp; omega
      have h4 : standOne ls xs[j] = false := by unfold standOne; rw [hk]; simp [List.getElem?_eq_none (show ls.length ≤ k by omega)]
      rw [h4] at hp
      try simp only [↓RG, RP, true_and, and_true, beq_true, beq_false, Bool.true_beq, Bool.false_beq, BEq.rfl, Int.reduceEq, Int.reduceLT, Int.reduceLE, Nat.reduceEqDiff, decide_true, decide_false, Bool.not_true, Bool.not_false, Bool.and_true, Bool.true_and, Bool.and_false, Bool.false_and, Bool.or_true, Bool.true_or, Bool.or_false, Bool.false_or, Bool.not_not, h3]
      have : stands xs ls = false := by rw [hp]; rfl
      rwa [this] at hK
  · have : xs.drop j = [] := List.drop_eq_nil_of_le (by simpa using h)
    rw [this] at hp
    rw [hp] at hK
    exact hK

theorem s_reads_Reads_Stands {lv : Value} {ls : List TLock} [i : SelOb L ReadsR b (m, xs) C] [r : ∀ A, Rd w0 (C A) lv tLockE 3 ls] (hl : xs.length ≤ 1000000) (h0 : ∀ x ∈ xs, 0 ≤ x.stripe) (hK : G w0 L (K (.bool (stands xs ls)))) :
    G w0 L (CP Try.prog Fn.reads_Reads_Stands [ptr b 0, lv] K) := by
  refine i.useM (A' := ob ReadsR b (m, xs)) (fun M hM hK => ?_) (by rw [← i.here]; exact hK)
  have r' := Rd.frame hM r
  rw [ReadsR_open] at *
  intro v hv
  refine C_reads_Reads_Stands ?_
  unfold S_reads_Reads_Stands
  try simp only [↓RG, RP, true_and, and_true, beq_true, beq_false, Bool.true_beq, Bool.false_beq, BEq.rfl, Int.reduceEq, Int.reduceLT, Int.reduceLE, Nat.reduceEqDiff, decide_true, decide_false, Bool.not_true, Bool.not_false, Bool.and_true, Bool.true_and, Bool.and_false, Bool.false_and, Bool.or_true, Bool.true_or, Bool.or_false, Bool.false_or, Bool.not_not]
  refine G.loopc1 (fun j : Nat => i64 j) (fun j => j ≤ xs.length ∧ stands xs ls = stands (xs.drop j) ls) (fun j => xs.length - j) 0 rfl ⟨by omega, by simp⟩ ?_
  rintro j ⟨hj, hp⟩ J hJ
  try simp only [fuse_and, fuse_or, fuse_step, fuse_pair, fuse_in, andP_true]
  try simp only [↓RG, RP, true_and, and_true, beq_true, beq_false, Bool.true_beq, Bool.false_beq, BEq.rfl, Int.reduceEq, Int.reduceLT, Int.reduceLE, Nat.reduceEqDiff, decide_true, decide_false, Bool.not_true, Bool.not_false, Bool.and_true, Bool.true_and, Bool.and_false, Bool.false_and, Bool.or_true, Bool.true_or, Bool.or_false, Bool.false_or, Bool.not_not]
  refine G.cond (fun h => ?_) (fun h => ?_)
  · have hj2 : j < xs.length := by simpa using h
    have e := elem_of hj2
    rw [List.drop_eq_getElem_cons hj2, stands_cons] at hp
    have hn := h0 _ (List.getElem_mem hj2)
    obtain ⟨k, hk⟩ := Int.eq_ofNat_of_zero_le hn
    have ix : IxI xs[j].stripe k := ⟨hk⟩
    try simp only [↓RG, RP, true_and, and_true, beq_true, beq_false, Bool.true_beq, Bool.false_beq, BEq.rfl, Int.reduceEq, Int.reduceLT, Int.reduceLE, Nat.reduceEqDiff, decide_true, decide_false, Bool.not_true, Bool.not_false, Bool.and_true, Bool.true_and, Bool.and_false, Bool.false_and, Bool.or_true, Bool.true_or, Bool.or_false, Bool.false_or, Bool.not_not]
    refine G.new fun p => ?_
    try simp only [↓RG, RP, true_and, and_true, beq_true, beq_false, Bool.true_beq, Bool.false_beq, BEq.rfl, Int.reduceEq, Int.reduceLT, Int.reduceLE, Nat.reduceEqDiff, decide_true, decide_false, Bool.not_true, Bool.not_false, Bool.and_true, Bool.true_and, Bool.and_false, Bool.false_and, Bool.or_true, Bool.true_or, Bool.or_false, Bool.false_or, Bool.not_not]
    refine G.drew ?_
    try simp only [↓RG, RP, true_and, and_true, beq_true, beq_false, Bool.true_beq, Bool.false_beq, BEq.rfl, Int.reduceEq, Int.reduceLT, Int.reduceLE, Nat.reduceEqDiff, decide_true, decide_false, Bool.not_true, Bool.not_false, Bool.and_true, Bool.true_and, Bool.and_false, Bool.false_and, Bool.or_true, Bool.true_or, Bool.or_false, Bool.false_or, Bool.not_not]
    by_cases hk2 : k < ls.length
    · have e2 := elem_of hk2
      have h3 : decide ((ls.length : Int) ≤ xs[j].stripe) = false := by simp; omega
      have h4 : standOne ls xs[j] = (!ls[k].held && decide (ls[k].version = xs[j].version)) := by unfold standOne; rw [hk]; simp [hk2]
      rw [h4] at hp
      try simp only [↓RG, RP, true_and, and_true, beq_true, beq_false, Bool.true_beq, Bool.false_beq, BEq.rfl, Int.reduceEq, Int.reduceLT, Int.reduceLE, Nat.reduceEqDiff, decide_true, decide_false, Bool.not_true, Bool.not_false, Bool.and_true, Bool.true_and, Bool.and_false, Bool.false_and, Bool.or_true, Bool.true_or, Bool.or_false, Bool.false_or, Bool.not_not, h3]
      refine G.any (!decide (ls[k].version = xs[j].version)) (fun _ K hK => by try simp only [↓RG, RP, true_and, and_true, beq_true, beq_false, Bool.true_beq, Bool.false_beq, BEq.rfl, Int.reduceEq, Int.reduceLT, Int.reduceLE, Nat.reduceEqDiff, decide_true, decide_false, Bool.not_true, Bool.not_false, Bool.and_true, Bool.true_and, Bool.and_false, Bool.false_and, Bool.or_true, Bool.true_or, Bool.or_false, Bool.false_or, Bool.not_not]; exact hK) ?_
      refine G.cond (fun h => ?_) (fun h => ?_)
      · have : stands xs ls = false := by rw [hp]; simp at h ⊢; intro h5; rcases h with h | h <;> simp_all
        have hK := hK v hv
        rw [this] at hK
        exact hK.sub
      · rw [wsucc (by omega)]
        refine (hJ (j + 1) ⟨hj2, ?_⟩ (by omega)).sub
        rw [hp]; simp at h; simp [h]
    · have h3 : decide ((ls.length : Int) ≤ xs[j].stripe) = true := by simp; omega
      have h4 : standOne ls xs[j] = false := by unfold standOne; rw [hk]; simp [List.getElem?_eq_none (show ls.length ≤ k by omega)]
      rw [h4] at hp
      try simp only [↓RG, RP, true_and, and_true, beq_true, beq_false, Bool.true_beq, Bool.false_beq, BEq.rfl, Int.reduceEq, Int.reduceLT, Int.reduceLE, Nat.reduceEqDiff, decide_true, decide_false, Bool.not_true, Bool.not_false, Bool.and_true, Bool.true_and, Bool.and_false, Bool.false_and, Bool.or_true, Bool.true_or, Bool.or_false, Bool.false_or, Bool.not_not, h3]
      have : stands xs ls = false := by rw [hp]; rfl
      have hK := hK v hv
      rw [this] at hK
      exact hK.sub
  · have : xs.drop j = [] := List.drop_eq_nil_of_le (by simpa using h)
    rw [this] at hp
    have hK := hK v hv
    rw [hp] at hK
    exact hK

end
end Go.Proofs.Ytpabihjmjkodbaa.S
