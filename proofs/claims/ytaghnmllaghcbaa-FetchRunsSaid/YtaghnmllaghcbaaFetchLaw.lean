/-
  CHAPTER 23: the statements' own functions.
-/
import Derived.Test.YtaghnmllaghcbaaFetch
import Derived.Test.YtaghnmllaghcbaaStripeLaw
namespace Go.Proofs.Ytaghnmllaghcbaa.S
open Go Go.Proofs
set_option linter.unusedVariables false
set_option linter.unusedSimpArgs false

section
variable {w0 : World} {L M : List Asn} {K : KV} {F : World → Prop} {C : Asn → List Asn} {b : Nat} {f : FetchS}

set_option maxRecDepth 20000 in
theorem s_law23_FetchRuns (hK : G w0 L (K (.bool true))) : G w0 L (CP Try.prog Fn.law23_FetchRuns [] K) := by
  refine C_law23_FetchRuns ?_
  unfold S_law23_FetchRuns
  refine s_fetch_New fun b => ?_
  try simp (maxSteps := 2000000) only [↓RG, RP, true_and, and_true, beq_true, beq_false, Bool.true_beq, Bool.false_beq, BEq.rfl, Int.reduceEq, Int.reduceLT, Int.reduceLE, Nat.reduceEqDiff, decide_true, decide_false, Bool.not_true, Bool.not_false, Bool.and_true, Bool.true_and, Bool.and_false, Bool.false_and, Bool.or_true, Bool.true_or, Bool.or_false, Bool.false_or, Bool.not_not]
  refine s_fetch_Fetch_Next (f := fetchNew 0 9 3 2 5) ?_
  have e1 : fetchNext (fetchNew 0 9 3 2 5) = (⟨3, 3, 0, 0, ⟨0, false, 0⟩, ⟨0, false, 0⟩⟩, true) := rfl
  rw [e1]
  try simp (maxSteps := 2000000) only [↓RG, RP, true_and, and_true, beq_true, beq_false, Bool.true_beq, Bool.false_beq, BEq.rfl, Int.reduceEq, Int.reduceLT, Int.reduceLE, Nat.reduceEqDiff, decide_true, decide_false, Bool.not_true, Bool.not_false, Bool.and_true, Bool.true_and, Bool.and_false, Bool.false_and, Bool.or_true, Bool.true_or, Bool.or_false, Bool.false_or, Bool.not_not]
  refine G.new fun p => ?_
  try simp (maxSteps := 2000000) only [↓RG, RP, true_and, and_true, beq_true, beq_false, Bool.true_beq, Bool.false_beq, BEq.rfl, Int.reduceEq, Int.reduceLT, Int.reduceLE, Nat.reduceEqDiff, decide_true, decide_false, Bool.not_true, Bool.not_false, Bool.and_true, Bool.true_and, Bool.and_false, Bool.false_and, Bool.or_true, Bool.true_or, Bool.or_false, Bool.false_or, Bool.not_not]
  refine s_fetch_Fetch_Tell (f := fetchNew 0 9 3 2 5) (a := ⟨0, ⟨3, false, 0⟩, false, 0⟩) ?_
  have e2 : fetchTell (fetchNew 0 9 3 2 5) ⟨0, ⟨3, false, 0⟩, false, 0⟩ = ⟨⟨0, 2, 0, -1, 0⟩, 9, 3, 5, 1, ⟨3, false, 0⟩, 0⟩ := rfl
  rw [e2]
  try simp (maxSteps := 2000000) only [↓RG, RP, true_and, and_true, beq_true, beq_false, Bool.true_beq, Bool.false_beq, BEq.rfl, Int.reduceEq, Int.reduceLT, Int.reduceLE, Nat.reduceEqDiff, decide_true, decide_false, Bool.not_true, Bool.not_false, Bool.and_true, Bool.true_and, Bool.and_false, Bool.false_and, Bool.or_true, Bool.true_or, Bool.or_false, Bool.false_or, Bool.not_not]
  refine s_fetch_Fetch_Next (f := ⟨⟨0, 2, 0, -1, 0⟩, 9, 3, 5, 1, ⟨3, false, 0⟩, 0⟩) ?_
  have e3 : fetchNext ⟨⟨0, 2, 0, -1, 0⟩, 9, 3, 5, 1, ⟨3, false, 0⟩, 0⟩ = (⟨1, 9, 0, 0, ⟨0, false, 0⟩, ⟨0, false, 0⟩⟩, true) := rfl
  rw [e3]
  try simp (maxSteps := 2000000) only [↓RG, RP, true_and, and_true, beq_true, beq_false, Bool.true_beq, Bool.false_beq, BEq.rfl, Int.reduceEq, Int.reduceLT, Int.reduceLE, Nat.reduceEqDiff, decide_true, decide_false, Bool.not_true, Bool.not_false, Bool.and_true, Bool.true_and, Bool.and_false, Bool.false_and, Bool.or_true, Bool.true_or, Bool.or_false, Bool.false_or, Bool.not_not]
  refine G.new fun p2 => ?_
  try simp (maxSteps := 2000000) only [↓RG, RP, true_and, and_true, beq_true, beq_false, Bool.true_beq, Bool.false_beq, BEq.rfl, Int.reduceEq, Int.reduceLT, Int.reduceLE, Nat.reduceEqDiff, decide_true, decide_false, Bool.not_true, Bool.not_false, Bool.and_true, Bool.true_and, Bool.and_false, Bool.false_and, Bool.or_true, Bool.true_or, Bool.or_false, Bool.false_or, Bool.not_not]
  refine s_fetch_Fetch_Tell (f := ⟨⟨0, 2, 0, -1, 0⟩, 9, 3, 5, 1, ⟨3, false, 0⟩, 0⟩) (a := ⟨7, ⟨0, false, 0⟩, false, 0⟩) ?_
  have e4 : fetchTell ⟨⟨0, 2, 0, -1, 0⟩, 9, 3, 5, 1, ⟨3, false, 0⟩, 0⟩ ⟨7, ⟨0, false, 0⟩, false, 0⟩ = ⟨⟨0, 2, 0, -1, 0⟩, 9, 3, 5, 2, ⟨3, false, 0⟩, 7⟩ := rfl
  rw [e4]
  try simp (maxSteps := 2000000) only [↓RG, RP, true_and, and_true, beq_true, beq_false, Bool.true_beq, Bool.false_beq, BEq.rfl, Int.reduceEq, Int.reduceLT, Int.reduceLE, Nat.reduceEqDiff, decide_true, decide_false, Bool.not_true, Bool.not_false, Bool.and_true, Bool.true_and, Bool.and_false, Bool.false_and, Bool.or_true, Bool.true_or, Bool.or_false, Bool.false_or, Bool.not_not]
  refine s_fetch_Fetch_Tell (f := ⟨⟨0, 2, 0, -1, 0⟩, 9, 3, 5, 2, ⟨3, false, 0⟩, 7⟩) (a := ⟨0, ⟨3, false, 0⟩, false, 0⟩) ?_
  have e5 : fetchTell ⟨⟨0, 2, 0, -1, 0⟩, 9, 3, 5, 2, ⟨3, false, 0⟩, 7⟩ ⟨0, ⟨3, false, 0⟩, false, 0⟩ = ⟨⟨0, 2, 2, -1, 0⟩, 9, 3, 5, 2, ⟨3, false, 0⟩, 7⟩ := rfl
  rw [e5]
  try simp (maxSteps := 2000000) only [↓RG, RP, true_and, and_true, beq_true, beq_false, Bool.true_beq, Bool.false_beq, BEq.rfl, Int.reduceEq, Int.reduceLT, Int.reduceLE, Nat.reduceEqDiff, decide_true, decide_false, Bool.not_true, Bool.not_false, Bool.and_true, Bool.true_and, Bool.and_false, Bool.false_and, Bool.or_true, Bool.true_or, Bool.or_false, Bool.false_or, Bool.not_not]
  refine s_fetch_Fetch_Next (f := ⟨⟨0, 2, 2, -1, 0⟩, 9, 3, 5, 2, ⟨3, false, 0⟩, 7⟩) ?_
  have e6 : fetchNext ⟨⟨0, 2, 2, -1, 0⟩, 9, 3, 5, 2, ⟨3, false, 0⟩, 7⟩ = (⟨0, 0, 0, 0, ⟨0, false, 0⟩, ⟨0, false, 0⟩⟩, false) := rfl
  rw [e6]
  try simp (maxSteps := 2000000) only [↓RG, RP, true_and, and_true, beq_true, beq_false, Bool.true_beq, Bool.false_beq, BEq.rfl, Int.reduceEq, Int.reduceLT, Int.reduceLE, Nat.reduceEqDiff, decide_true, decide_false, Bool.not_true, Bool.not_false, Bool.and_true, Bool.true_and, Bool.and_false, Bool.false_and, Bool.or_true, Bool.true_or, Bool.or_false, Bool.false_or, Bool.not_not]
  refine G.new fun p3 => ?_
  try simp (maxSteps := 2000000) only [↓RG, RP, true_and, and_true, beq_true, beq_false, Bool.true_beq, Bool.false_beq, BEq.rfl, Int.reduceEq, Int.reduceLT, Int.reduceLE, Nat.reduceEqDiff, decide_true, decide_false, Bool.not_true, Bool.not_false, Bool.and_true, Bool.true_and, Bool.and_false, Bool.false_and, Bool.or_true, Bool.true_or, Bool.or_false, Bool.false_or, Bool.not_not]
  refine s_fetch_Fetch_End (f := ⟨⟨0, 2, 2, -1, 0⟩, 9, 3, 5, 2, ⟨3, false, 0⟩, 7⟩) ?_
  try simp (maxSteps := 2000000) only [↓RG, RP, true_and, and_true, beq_true, beq_false, Bool.true_beq, Bool.false_beq, BEq.rfl, Int.reduceEq, Int.reduceLT, Int.reduceLE, Nat.reduceEqDiff, decide_true, decide_false, Bool.not_true, Bool.not_false, Bool.and_true, Bool.true_and, Bool.and_false, Bool.false_and, Bool.or_true, Bool.true_or, Bool.or_false, Bool.false_or, Bool.not_not]
  refine s_fetch_Fetch_Word (f := ⟨⟨0, 2, 2, -1, 0⟩, 9, 3, 5, 2, ⟨3, false, 0⟩, 7⟩) ?_
  simp only [if_true]
  try simp (maxSteps := 2000000) only [↓RG, RP, true_and, and_true, beq_true, beq_false, Bool.true_beq, Bool.false_beq, BEq.rfl, Int.reduceEq, Int.reduceLT, Int.reduceLE, Nat.reduceEqDiff, decide_true, decide_false, Bool.not_true, Bool.not_false, Bool.and_true, Bool.true_and, Bool.and_false, Bool.false_and, Bool.or_true, Bool.true_or, Bool.or_false, Bool.false_or, Bool.not_not]
  refine s_fetch_Fetch_Seen (f := ⟨⟨0, 2, 2, -1, 0⟩, 9, 3, 5, 2, ⟨3, false, 0⟩, 7⟩) ?_
  simp only [if_true]
  try simp (maxSteps := 2000000) only [↓RG, RP, true_and, and_true, beq_true, beq_false, Bool.true_beq, Bool.false_beq, BEq.rfl, Int.reduceEq, Int.reduceLT, Int.reduceLE, Nat.reduceEqDiff, decide_true, decide_false, Bool.not_true, Bool.not_false, Bool.and_true, Bool.true_and, Bool.and_false, Bool.false_and, Bool.or_true, Bool.true_or, Bool.or_false, Bool.false_or, Bool.not_not]
  refine s_fetch_Fetch_By (f := ⟨⟨0, 2, 2, -1, 0⟩, 9, 3, 5, 2, ⟨3, false, 0⟩, 7⟩) ?_
  try simp (maxSteps := 2000000) only [↓RG, RP, true_and, and_true, beq_true, beq_false, Bool.true_beq, Bool.false_beq, BEq.rfl, Int.reduceEq, Int.reduceLT, Int.reduceLE, Nat.reduceEqDiff, decide_true, decide_false, Bool.not_true, Bool.not_false, Bool.and_true, Bool.true_and, Bool.and_false, Bool.false_and, Bool.or_true, Bool.true_or, Bool.or_false, Bool.false_or, Bool.not_not]
  exact hK.sub

end
end Go.Proofs.Ytaghnmllaghcbaa.S
