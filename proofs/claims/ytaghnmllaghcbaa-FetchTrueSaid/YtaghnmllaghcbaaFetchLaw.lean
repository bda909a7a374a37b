/-
  CHAPTER 23: the statements' own functions.
-/
import Derived.Test.YtaghnmllaghcbaaFetch
import Derived.Test.YtaghnmllaghcbaaStripeLaw
namespace Go.Proofs.Ytaghnmllaghcbaa.S
open Go Go.Proofs
set_option linter.unusedVariables false
set_option linter.unusedSimpArgs false

section
variable {w0 : World} {L M : List Asn} {K : KV} {F : World → Prop} {C : Asn → List Asn} {b : Nat} {f : FetchS}

set_option maxRecDepth 20000 in
theorem s_law23_FetchRuns (hK : G w0 L (K (.bool true))) : G w0 L (CP Try.prog Fn.law23_FetchRuns [] K) := by
  refine C_law23_FetchRuns ?_
  unfold S_law23_FetchRuns
  refine s_fetch_New fun b => ?_
  try simp (maxSteps := 2000000) only [↓RG, RP, true_and, and_true, beq_true, beq_false, Bool.true_beq, Bool.false_beq, BEq.rfl, Int.reduceEq, Int.reduceLT, Int.reduceLE, Nat.reduceEqDiff, decide_true, decide_false, Bool.not_true, Bool.not_false, Bool.and_true, Bool.true_and, Bool.and_false, Bool.false_and, Bool.or_true, Bool.true_or, Bool.or_false, Bool.false_or, Bool.not_not]
  refine s_fetch_Fetch_Next (f := fetchNew 0 9 3 2 5) ?_
  have e1 : fetchNext (fetchNew 0 9 3 2 5) = (⟨3, 3, 0, 0, ⟨0, false, 0⟩, ⟨0, false, 0⟩⟩, true) := rfl
  rw [e1]
  try simp (maxSteps := 2000000) only [↓RG, RP, true_and, and_true, beq_true, beq_false, Bool.true_beq, Bool.false_beq, BEq.rfl, Int.reduceEq, Int.reduceLT, Int.reduceLE, Nat.reduceEqDiff, decide_true, decide_false, Bool.not_true, Bool.not_false, Bool.and_true, Bool.true_and, Bool.and_false, Bool.false_and, Bool.or_true, Bool.true_or, Bool.or_false, Bool.false_or, Bool.not_not]
  refine G.new fun p => ?_
  try simp (maxSteps := 2000000) only [↓RG, RP, true_and, and_true, beq_true, beq_false, Bool.true_beq, Bool.false_beq, BEq.rfl, Int.reduceEq, Int.reduceLT, Int.reduceLE, Nat.reduceEqDiff, decide_true, decide_false, Bool.not_true, Bool.not_false, Bool.and_true, Bool.true_and, Bool.and_false, Bool.false_and, Bool.or_true, Bool.true_or, Bool.or_false, Bool.false_or, Bool.not_not]
  refine s_fetch_Fetch_Tell (f := fetchNew 0 9 3 2 5) (a := ⟨0, ⟨3, false, 0⟩, false, 0⟩) ?_
  have e2 : fetchTell (fetchNew 0 9 3 2 5) ⟨0, ⟨3, false, 0⟩, false, 0⟩ = ⟨⟨0, 2, 0, -1, 0⟩, 9, 3, 5, 1, ⟨3, false, 0⟩, 0⟩ := rfl
  rw [e2]
  try simp (maxSteps := 2000000) only [↓RG, RP, true_and, and_true, beq_true, beq_false, Bool.true_beq, Bool.false_beq, BEq.rfl, Int.reduceEq, Int.reduceLT, Int.reduceLE, Nat.reduceEqDiff, decide_true, decide_false, Bool.not_true, Bool.not_false, Bool.and_true, Bool.true_and, Bool.and_false, Bool.false_and, Bool.or_true, Bool.true_or, Bool.or_false, Bool.false_or, Bool.not_not]
  refine s_fetch_Fetch_Next (f := ⟨⟨0, 2, 0, -1, 0⟩, 9, 3, 5, 1, ⟨3, false, 0⟩, 0⟩) ?_
  have e3 : fetchNext ⟨⟨0, 2, 0, -1, 0⟩, 9, 3, 5, 1, ⟨3, false, 0⟩, 0⟩ = (⟨1, 9, 0, 0, ⟨0, false, 0⟩, ⟨0, false, 0⟩⟩, true) := rfl
  rw [e3]
  try simp (maxSteps := 2000000) only [↓RG, RP, true_and, and_true, beq_true, beq_false, Bool.true_beq, Bool.false_beq, BEq.rfl, Int.reduceEq, Int.reduceLT, Int.reduceLE, Nat.reduceEqDiff, decide_true, decide_false, Bool.not_true, Bool.not_false, Bool.and_true, Bool.true_and, Bool.and_false, Bool.false_and, Bool.or_true, Bool.true_or, Bool.or_false, Bool.false_or, Bool.not_not]
  refine G.new fun p2 => ?_
  try simp (maxSteps := 2000000) only [↓RG, RP, true_and, and_true, beq_true, beq_false, Bool.true_beq, Bool.false_beq, BEq.rfl, Int.reduceEq, Int.reduceLT, Int.reduceLE, Nat.reduceEqDiff, decide_true, decide_false, Bool.not_true, Bool.not_false, Bool.and_true, Bool.true_and, Bool.and_false, Bool.false_and, Bool.or_true, Bool.true_or, Bool.or_false, Bool.false_or, Bool.not_not]
  refine s_fetch_Fetch_Tell (f := ⟨⟨0, 2, 0, -1, 0⟩, 9, 3, 5, 1, ⟨3, false, 0⟩, 0⟩) (a := ⟨7, ⟨0, false, 0⟩, false, 0⟩) ?_
  have e4 : fetchTell ⟨⟨0, 2, 0, -1, 0⟩, 9, 3, 5, 1, ⟨3, false, 0⟩, 0⟩ ⟨7, ⟨0, false, 0⟩, false, 0⟩ = ⟨⟨0, 2, 0, -1, 0⟩, 9, 3, 5, 2, ⟨3, false, 0⟩, 7⟩ := rfl
  rw [e4]
  try simp (maxSteps := 2000000) only [↓RG, RP, true_and, and_true, beq_true, beq_false, Bool.true_beq, Bool.false_beq, BEq.rfl, Int.reduceEq, Int.reduceLT, Int.reduceLE, Nat.reduceEqDiff, decide_true, decide_false, Bool.not_true, Bool.not_false, Bool.and_true, Bool.true_and, Bool.and_false, Bool.false_and, Bool.or_true, Bool.true_or, Bool.or_false, Bool.false_or, Bool.not_not]
  refine s_fetch_Fetch_Tell (f := ⟨⟨0, 2, 0, -1, 0⟩, 9, 3, 5, 2, ⟨3, false, 0⟩, 7⟩) (a := ⟨0, ⟨3, false, 0⟩, false, 0⟩) ?_
  have e5 : fetchTell ⟨⟨0, 2, 0, -1, 0⟩, 9, 3, 5, 2, ⟨3, false, 0⟩, 7⟩ ⟨0, ⟨3, false, 0⟩, false, 0⟩ = ⟨⟨0, 2, 2, -1, 0⟩, 9, 3, 5, 2, ⟨3, false, 0⟩, 7⟩ := rfl
  rw [e5]
  try simp (maxSteps := 2000000) only [↓RG, RP, true_and, and_true, beq_true, beq_false, Bool.true_beq, Bool.false_beq, BEq.rfl, Int.reduceEq, Int.reduceLT, Int.reduceLE, Nat.reduceEqDiff, decide_true, decide_false, Bool.not_true, Bool.not_false, Bool.and_true, Bool.true_and, Bool.and_false, Bool.false_and, Bool.or_true, Bool.true_or, Bool.or_false, Bool.false_or, Bool.not_not]
  refine s_fetch_Fetch_Next (f := ⟨⟨0, 2, 2, -1, 0⟩, 9, 3, 5, 2, ⟨3, false, 0⟩, 7⟩) ?_
  have e6 : fetchNext ⟨⟨0, 2, 2, -1, 0⟩, 9, 3, 5, 2, ⟨3, false, 0⟩, 7⟩ = (⟨0, 0, 0, 0, ⟨0, false, 0⟩, ⟨0, false, 0⟩⟩, false) := rfl
  rw [e6]
  try simp (maxSteps := 2000000) only [↓RG, RP, true_and, and_true, beq_true, beq_false, Bool.true_beq, Bool.false_beq, BEq.rfl, Int.reduceEq, Int.reduceLT, Int.reduceLE, Nat.reduceEqDiff, decide_true, decide_false, Bool.not_true, Bool.not_false, Bool.and_true, Bool.true_and, Bool.and_false, Bool.false_and, Bool.or_true, Bool.true_or, Bool.or_false, Bool.false_or, Bool.not_not]
  refine G.new fun p3 => ?_
  try simp (maxSteps := 2000000) only [↓RG, RP, true_and, and_true, beq_true, beq_false, Bool.true_beq, Bool.false_beq, BEq.rfl, Int.reduceEq, Int.reduceLT, Int.reduceLE, Nat.reduceEqDiff, decide_true, decide_false, Bool.not_true, Bool.not_false, Bool.and_true, Bool.true_and, Bool.and_false, Bool.false_and, Bool.or_true, Bool.true_or, Bool.or_false, Bool.false_or, Bool.not_not]
  refine s_fetch_Fetch_End (f := ⟨⟨0, 2, 2, -1, 0⟩, 9, 3, 5, 2, ⟨3, false, 0⟩, 7⟩) ?_
  try simp (maxSteps := 2000000) only [↓RG, RP, true_and, and_true, beq_true, beq_false, Bool.true_beq, Bool.false_beq, BEq.rfl, Int.reduceEq, Int.reduceLT, Int.reduceLE, Nat.reduceEqDiff, decide_true, decide_false, Bool.not_true, Bool.not_false, Bool.and_true, Bool.true_and, Bool.and_false, Bool.false_and, Bool.or_true, Bool.true_or, Bool.or_false, Bool.false_or, Bool.not_not]
  refine s_fetch_Fetch_Word (f := ⟨⟨0, 2, 2, -1, 0⟩, 9, 3, 5, 2, ⟨3, false, 0⟩, 7⟩) ?_
  simp only [if_true]
  try simp (maxSteps := 2000000) only [↓RG, RP, true_and, and_true, beq_true, beq_false, Bool.true_beq, Bool.false_beq, BEq.rfl, Int.reduceEq, Int.reduceLT, Int.reduceLE, Nat.reduceEqDiff, decide_true, decide_false, Bool.not_true, Bool.not_false, Bool.and_true, Bool.true_and, Bool.and_false, Bool.false_and, Bool.or_true, Bool.true_or, Bool.or_false, Bool.false_or, Bool.not_not]
  refine s_fetch_Fetch_Seen (f := ⟨⟨0, 2, 2, -1, 0⟩, 9, 3, 5, 2, ⟨3, false, 0⟩, 7⟩) ?_
  simp only [if_true]
  try simp (maxSteps := 2000000) only [↓RG, RP, true_and, and_true, beq_true, beq_false, Bool.true_beq, Bool.false_beq, BEq.rfl, Int.reduceEq, Int.reduceLT, Int.reduceLE, Nat.reduceEqDiff, decide_true, decide_false, Bool.not_true, Bool.not_false, Bool.and_true, Bool.true_and, Bool.and_false, Bool.false_and, Bool.or_true, Bool.true_or, Bool.or_false, Bool.false_or, Bool.not_not]
  refine s_fetch_Fetch_By (f := ⟨⟨0, 2, 2, -1, 0⟩, 9, 3, 5, 2, ⟨3, false, 0⟩, 7⟩) ?_
  try simp (maxSteps := 2000000) only [↓RG, RP, true_and, and_true, beq_true, beq_false, Bool.true_beq, Bool.false_beq, BEq.rfl, Int.reduceEq, Int.reduceLT, Int.reduceLE, Nat.reduceEqDiff, decide_true, decide_false, Bool.not_true, Bool.not_false, Bool.and_true, Bool.true_and, Bool.and_false, Bool.false_and, Bool.or_true, Bool.true_or, Bool.or_false, Bool.false_or, Bool.not_not]
  exact hK.sub

/-- one that is held, told so often -/
def waitsState (a o s : Int) : Nat → FetchS
  | 0 => fetchNew a 9 3 s 5
  | i + 1 => fetchTell (waitsState a o s i) ⟨0, ⟨1, true, o⟩, false, 0⟩

def waitsMk (a sp fin by_ : Int) : FetchS := ⟨⟨a, sp, fin, by_, 0⟩, 9, 3, 5, 0, ⟨0, false, 0⟩, 0⟩

theorem waitsTell {a sp o : Int} (h : 0 ≤ sp) (h2 : sp ≤ 4) : fetchTell (waitsMk a sp 0 (-1)) ⟨0, ⟨1, true, o⟩, false, 0⟩ = if o ≤ a then (if sp = 0 then waitsMk a (-1) 5 o else waitsMk a (sp - 1) 0 (-1)) else waitsMk a sp 0 (-1) := by
  have e : IntKind.wrap .i64 (sp - 1) = sp - 1 := wi64 (by omega) (by omega)
  by_cases c : o ≤ a
  · rw [if_pos c]
    have c2 : ¬ o > a := by omega
    by_cases z : sp = 0
    · subst z
      simp [fetchTell, fetchFound, Pat.waits, Pat.stopped, Pat.stop, waitsMk, c2]
      rfl
    · rw [if_neg z]
      have z2 : sp - 1 ≥ 0 := by omega
      simp [fetchTell, fetchFound, Pat.waits, Pat.stopped, Pat.stop, waitsMk, c2, e, z2]
      omega
  · rw [if_neg c]
    have c2 : o > a := by omega
    simp [fetchTell, fetchFound, Pat.waits, Pat.stopped, Pat.stop, waitsMk, c2]

theorem waitsTell2 {a sp o b : Int} : fetchTell (waitsMk a sp 5 b) ⟨0, ⟨1, true, o⟩, false, 0⟩ = waitsMk a sp 5 b := by
  simp [fetchTell, Pat.stopped, waitsMk]

theorem waitsState_eq {a o s : Int} (hs : 0 ≤ s) (k : Int) (hk : k = if 4 < s then 4 else s) (i : Nat) : waitsState a o s i = if o ≤ a then (if (i : Int) ≤ k then waitsMk a (k - i) 0 (-1) else waitsMk a (-1) 5 o) else waitsMk a k 0 (-1) := by
  have k0 : 0 ≤ k ∧ k ≤ 4 := by subst hk; split <;> omega
  induction i with
  | zero =>
    have e : held s 0 4 = k := by subst hk; unfold held; split <;> (try split) <;> (try split) <;> omega
    have e2 : waitsState a o s 0 = waitsMk a k 0 (-1) := by unfold waitsState fetchNew newPat waitsMk; rw [e]; rfl
    rw [e2]
    simp [k0.1]
  | succ i ih =>
    rw [waitsState, ih]
    by_cases c : o ≤ a
    · simp only [if_pos c]
      by_cases d : (i : Int) ≤ k
      · rw [if_pos d, waitsTell (by omega) (by omega), if_pos c]
        by_cases z : k - i = 0
        · rw [if_pos z, if_neg (by omega)]
        · rw [if_neg z, if_pos (by omega), show k - (i : Int) - 1 = k - ((i + 1 : Nat) : Int) by omega]
      · rw [if_neg d, waitsTell2, if_neg (by omega)]
    · simp only [if_neg c]
      rw [waitsTell k0.1 k0.2, if_neg c]

theorem s_law23_FetchWaits {me ow sp lk : Int} (hn0 : inK .u8 me) (hn1 : inK .u8 ow) (hn2 : inK .u8 sp) (hn3 : inK .u8 lk) (hK : G w0 L (K (.bool true))) : G w0 L (CP Try.prog Fn.law23_FetchWaits [.int .u8 me, .int .u8 ow, .int .u8 sp, .int .u8 lk] K) := by
  have g0 := inK_u8 hn0
  have g1 := inK_u8 hn1
  have g2 := inK_u8 hn2
  have g3 := inK_u8 hn3
  refine C_law23_FetchWaits ?_
  unfold S_law23_FetchWaits
  refine s_law23_FetchRuns ?_
  try simp (maxSteps := 2000000) only [fuse_and, fuse_or, fuse_step, fuse_pair, fuse_in, andP_true]
  try simp (maxSteps := 2000000) only [↓RG, RP, true_and, and_true, beq_true, beq_false, Bool.true_beq, Bool.false_beq, BEq.rfl, Int.reduceEq, Int.reduceLT, Int.reduceLE, Nat.reduceEqDiff, decide_true, decide_false, Bool.not_true, Bool.not_false, Bool.and_true, Bool.true_and, Bool.and_false, Bool.false_and, Bool.or_true, Bool.true_or, Bool.or_false, Bool.false_or, Bool.not_not]
  have e0 : IntKind.wrap .i64 (me.tmod 4) = me % 4 := by rw [Int.tmod_eq_emod_of_nonneg (by omega), wi64 (by omega) (by omega)]
  have e1 : IntKind.wrap .i64 (ow.tmod 4) = ow % 4 := by rw [Int.tmod_eq_emod_of_nonneg (by omega), wi64 (by omega) (by omega)]
  have e2 : IntKind.wrap .i64 (sp.tmod 6) = sp % 6 := by rw [Int.tmod_eq_emod_of_nonneg (by omega), wi64 (by omega) (by omega)]
  have e3 : IntKind.wrap .i64 (lk.tmod 10) = ((lk.toNat % 10 : Nat) : Int) := by rw [Int.tmod_eq_emod_of_nonneg (by omega), wi64 (by omega) (by omega)]; omega
  simp only [e0, e1, e2, e3]
  obtain ⟨a, ha⟩ : ∃ a, me % 4 = a := ⟨_, rfl⟩
  obtain ⟨o, ho⟩ : ∃ o, ow % 4 = o := ⟨_, rfl⟩
  obtain ⟨s, hs⟩ : ∃ s, sp % 6 = s := ⟨_, rfl⟩
  obtain ⟨n, hn⟩ : ∃ n, lk.toNat % 10 = n := ⟨_, rfl⟩
  simp only [ha, ho, hs, hn]
  refine s_fetch_New fun b => ?_
  try simp (maxSteps := 2000000) only [↓RG, RP, true_and, and_true, beq_true, beq_false, Bool.true_beq, Bool.false_beq, BEq.rfl, Int.reduceEq, Int.reduceLT, Int.reduceLE, Nat.reduceEqDiff, decide_true, decide_false, Bool.not_true, Bool.not_false, Bool.and_true, Bool.true_and, Bool.and_false, Bool.false_and, Bool.or_true, Bool.true_or, Bool.or_false, Bool.false_or, Bool.not_not]
  refine G.loop1 (fun i : Nat => i64 i) (fun i => ob FetchR b (waitsState a o s i) :: L) (fun i => i ≤ n) (fun i => n - i) 0 rfl rfl (by simp) ?_
  intro i hi J hJ
  try simp (maxSteps := 2000000) only [↓RG, RP, true_and, and_true, beq_true, beq_false, Bool.true_beq, Bool.false_beq, BEq.rfl, Int.reduceEq, Int.reduceLT, Int.reduceLE, Nat.reduceEqDiff, decide_true, decide_false, Bool.not_true, Bool.not_false, Bool.and_true, Bool.true_and, Bool.and_false, Bool.false_and, Bool.or_true, Bool.true_or, Bool.or_false, Bool.false_or, Bool.not_not]
  refine G.cond (fun h => ?_) (fun h => ?_)
  · have hi2 : i < n := by simpa using h
    try simp (maxSteps := 2000000) only [↓RG, RP, true_and, and_true, beq_true, beq_false, Bool.true_beq, Bool.false_beq, BEq.rfl, Int.reduceEq, Int.reduceLT, Int.reduceLE, Nat.reduceEqDiff, decide_true, decide_false, Bool.not_true, Bool.not_false, Bool.and_true, Bool.true_and, Bool.and_false, Bool.false_and, Bool.or_true, Bool.true_or, Bool.or_false, Bool.false_or, Bool.not_not]
    refine s_fetch_Fetch_Tell (f := waitsState a o s i) (a := ⟨0, ⟨1, true, o⟩, false, 0⟩) ?_
    try simp (maxSteps := 2000000) only [↓RG, RP, true_and, and_true, beq_true, beq_false, Bool.true_beq, Bool.false_beq, BEq.rfl, Int.reduceEq, Int.reduceLT, Int.reduceLE, Nat.reduceEqDiff, decide_true, decide_false, Bool.not_true, Bool.not_false, Bool.and_true, Bool.true_and, Bool.and_false, Bool.false_and, Bool.or_true, Bool.true_or, Bool.or_false, Bool.false_or, Bool.not_not]
    rw [wsucc (by omega)]
    have h := hJ (i + 1) hi2 (by omega)
    rw [waitsState] at h
    exact h.sub
  · have : i = n := by simp at h; omega
    subst this
    have hs0 : 0 ≤ s := by omega
    obtain ⟨k, hk⟩ : ∃ k : Int, k = if 4 < s then 4 else s := ⟨_, rfl⟩
    have k0 : 0 ≤ k ∧ k ≤ 4 := by rw [hk]; split <;> omega
    rw [waitsState_eq hs0 k hk i]
    try simp (maxSteps := 2000000) only [↓RG, RP, true_and, and_true, beq_true, beq_false, Bool.true_beq, Bool.false_beq, BEq.rfl, Int.reduceEq, Int.reduceLT, Int.reduceLE, Nat.reduceEqDiff, decide_true, decide_false, Bool.not_true, Bool.not_false, Bool.and_true, Bool.true_and, Bool.and_false, Bool.false_and, Bool.or_true, Bool.true_or, Bool.or_false, Bool.false_or, Bool.not_not, ← hk]
    refine G.cond (fun h => ?_) (fun h => ?_)
    · have h2 : o ≤ a ∧ k < i := by simpa using h
      rw [if_pos h2.1, if_neg (by omega)]
      refine s_fetch_Fetch_Next (f := waitsMk a (-1) 5 o) ?_
      have e1 : fetchNext (waitsMk a (-1) 5 o) = (⟨0, 0, 0, 0, ⟨0, false, 0⟩, ⟨0, false, 0⟩⟩, false) := rfl
      rw [e1]
      try simp (maxSteps := 2000000) only [↓RG, RP, true_and, and_true, beq_true, beq_false, Bool.true_beq, Bool.false_beq, BEq.rfl, Int.reduceEq, Int.reduceLT, Int.reduceLE, Nat.reduceEqDiff, decide_true, decide_false, Bool.not_true, Bool.not_false, Bool.and_true, Bool.true_and, Bool.and_false, Bool.false_and, Bool.or_true, Bool.true_or, Bool.or_false, Bool.false_or, Bool.not_not]
      refine G.new fun p => ?_
      try simp (maxSteps := 2000000) only [↓RG, RP, true_and, and_true, beq_true, beq_false, Bool.true_beq, Bool.false_beq, BEq.rfl, Int.reduceEq, Int.reduceLT, Int.reduceLE, Nat.reduceEqDiff, decide_true, decide_false, Bool.not_true, Bool.not_false, Bool.and_true, Bool.true_and, Bool.and_false, Bool.false_and, Bool.or_true, Bool.true_or, Bool.or_false, Bool.false_or, Bool.not_not]
      refine s_fetch_Fetch_End (f := waitsMk a (-1) 5 o) ?_
      try simp (maxSteps := 2000000) only [↓RG, RP, true_and, and_true, beq_true, beq_false, Bool.true_beq, Bool.false_beq, BEq.rfl, Int.reduceEq, Int.reduceLT, Int.reduceLE, Nat.reduceEqDiff, decide_true, decide_false, Bool.not_true, Bool.not_false, Bool.and_true, Bool.true_and, Bool.and_false, Bool.false_and, Bool.or_true, Bool.true_or, Bool.or_false, Bool.false_or, Bool.not_not, waitsMk]
      refine s_fetch_Fetch_By (f := waitsMk a (-1) 5 o) ?_
      try simp (maxSteps := 2000000) only [↓RG, RP, true_and, and_true, beq_true, beq_false, Bool.true_beq, Bool.false_beq, BEq.rfl, Int.reduceEq, Int.reduceLT, Int.reduceLE, Nat.reduceEqDiff, decide_true, decide_false, Bool.not_true, Bool.not_false, Bool.and_true, Bool.true_and, Bool.and_false, Bool.false_and, Bool.or_true, Bool.true_or, Bool.or_false, Bool.false_or, Bool.not_not, waitsMk]
      exact hK.sub
    · obtain ⟨sp, hsp, e⟩ : ∃ sp, (0 ≤ sp ∧ sp ≤ 4) ∧ (if o ≤ a then (if (i : Int) ≤ k then waitsMk a (k - i) 0 (-1) else waitsMk a (-1) 5 o) else waitsMk a k 0 (-1)) = waitsMk a sp 0 (-1) := by
        by_cases c : o ≤ a
        · have : (i : Int) ≤ k := by simp [c] at h; omega
          exact ⟨k - i, by omega, by rw [if_pos c, if_pos this]⟩
        · exact ⟨k, k0, by rw [if_neg c]⟩
      rw [e]
      refine s_fetch_Fetch_Next (f := waitsMk a sp 0 (-1)) ?_
      have e1 : fetchNext (waitsMk a sp 0 (-1)) = (⟨3, 3, 0, 0, ⟨0, false, 0⟩, ⟨0, false, 0⟩⟩, true) := rfl
      rw [e1]
      try simp (maxSteps := 2000000) only [↓RG, RP, true_and, and_true, beq_true, beq_false, Bool.true_beq, Bool.false_beq, BEq.rfl, Int.reduceEq, Int.reduceLT, Int.reduceLE, Nat.reduceEqDiff, decide_true, decide_false, Bool.not_true, Bool.not_false, Bool.and_true, Bool.true_and, Bool.and_false, Bool.false_and, Bool.or_true, Bool.true_or, Bool.or_false, Bool.false_or, Bool.not_not]
      refine G.new fun p => ?_
      try simp (maxSteps := 2000000) only [↓RG, RP, true_and, and_true, beq_true, beq_false, Bool.true_beq, Bool.false_beq, BEq.rfl, Int.reduceEq, Int.reduceLT, Int.reduceLE, Nat.reduceEqDiff, decide_true, decide_false, Bool.not_true, Bool.not_false, Bool.and_true, Bool.true_and, Bool.and_false, Bool.false_and, Bool.or_true, Bool.true_or, Bool.or_false, Bool.false_or, Bool.not_not]
      refine s_fetch_Fetch_By (f := waitsMk a sp 0 (-1)) ?_
      try simp (maxSteps := 2000000) only [↓RG, RP, true_and, and_true, beq_true, beq_false, Bool.true_beq, Bool.false_beq, BEq.rfl, Int.reduceEq, Int.reduceLT, Int.reduceLE, Nat.reduceEqDiff, decide_true, decide_false, Bool.not_true, Bool.not_false, Bool.and_true, Bool.true_and, Bool.and_false, Bool.false_and, Bool.or_true, Bool.true_or, Bool.or_false, Bool.false_or, Bool.not_not, waitsMk]
      refine s_fetch_Fetch_End (f := waitsMk a sp 0 (-1)) ?_
      try simp (maxSteps := 2000000) only [↓RG, RP, true_and, and_true, beq_true, beq_false, Bool.true_beq, Bool.false_beq, BEq.rfl, Int.reduceEq, Int.reduceLT, Int.reduceLE, Nat.reduceEqDiff, decide_true, decide_false, Bool.not_true, Bool.not_false, Bool.and_true, Bool.true_and, Bool.and_false, Bool.false_and, Bool.or_true, Bool.true_or, Bool.or_false, Bool.false_or, Bool.not_not, waitsMk]
      refine s_fetch_Fetch_Tell (f := ⟨⟨a, sp, 0, -1, 0⟩, 9, 3, 5, 0, ⟨0, false, 0⟩, 0⟩) (a := ⟨0, ⟨1, false, 0⟩, false, 0⟩) ?_
      have e5 : fetchTell ⟨⟨a, sp, 0, -1, 0⟩, 9, 3, 5, 0, ⟨0, false, 0⟩, 0⟩ ⟨0, ⟨1, false, 0⟩, false, 0⟩ = ⟨⟨a, sp, 0, -1, 0⟩, 9, 3, 5, 1, ⟨1, false, 0⟩, 0⟩ := rfl
      rw [e5]
      try simp (maxSteps := 2000000) only [↓RG, RP, true_and, and_true, beq_true, beq_false, Bool.true_beq, Bool.false_beq, BEq.rfl, Int.reduceEq, Int.reduceLT, Int.reduceLE, Nat.reduceEqDiff, decide_true, decide_false, Bool.not_true, Bool.not_false, Bool.and_true, Bool.true_and, Bool.and_false, Bool.false_and, Bool.or_true, Bool.true_or, Bool.or_false, Bool.false_or, Bool.not_not]
      refine s_fetch_Fetch_Next (f := ⟨⟨a, sp, 0, -1, 0⟩, 9, 3, 5, 1, ⟨1, false, 0⟩, 0⟩) ?_
      have e6 : fetchNext ⟨⟨a, sp, 0, -1, 0⟩, 9, 3, 5, 1, ⟨1, false, 0⟩, 0⟩ = (⟨1, 9, 0, 0, ⟨0, false, 0⟩, ⟨0, false, 0⟩⟩, true) := rfl
      rw [e6]
      try simp (maxSteps := 2000000) only [↓RG, RP, true_and, and_true, beq_true, beq_false, Bool.true_beq, Bool.false_beq, BEq.rfl, Int.reduceEq, Int.reduceLT, Int.reduceLE, Nat.reduceEqDiff, decide_true, decide_false, Bool.not_true, Bool.not_false, Bool.and_true, Bool.true_and, Bool.and_false, Bool.false_and, Bool.or_true, Bool.true_or, Bool.or_false, Bool.false_or, Bool.not_not]
      exact hK.sub

end
end Go.Proofs.Ytaghnmllaghcbaa.S
