/-
  CHAPTER 25: the statements' own functions: a commit alone on a memory.
-/
import Derived.Test.YtokbiojkpldfeaaGreatCommitW
import Derived.Test.YtokbiojkpldfeaaGreatMem
namespace Go.Proofs.YtokbiojkpldfeaaGreat.S
open Go Go.Proofs
set_option linter.unusedVariables false
set_option linter.unusedSimpArgs false

/-- one step alone -/
def alStep (s : ComS × MemS) : ComS × MemS := if s.1.pat.fin = 0 then (comTell s.1 (memDo s.2 (comNext s.1).1).2, (memDo s.2 (comNext s.1).1).1) else s
def alN : Nat → ComS × MemS → ComS × MemS
  | 0, s => s
  | n + 1, s => alStep (alN n s)
theorem alN_add {s : ComS × MemS} (m : Nat) : ∀ n, alN (n + m) s = alN n (alN m s)
  | 0 => by rw [Nat.zero_add]; rfl
  | n + 1 => by rw [show n + 1 + m = (n + m) + 1 by omega]; show alStep (alN (n + m) s) = alStep (alN n (alN m s)); rw [alN_add m n]
theorem alN_stop {s : ComS × MemS} (h : s.1.pat.fin ≠ 0) : ∀ n, alN n s = s
  | 0 => rfl
  | n + 1 => by show alStep (alN n s) = s; rw [alN_stop h n]; unfold alStep; rw [if_neg h]
theorem alN_ok {s : ComS × MemS} (h : ComOk s.1) : ∀ n, ComOk (alN n s).1
  | 0 => h
  | n + 1 => by
    show ComOk (alStep (alN n s)).1
    unfold alStep
    split
    · exact comTell_ok (alN_ok h n) _
    · exact alN_ok h n

section
variable {w0 : Base} {L M : List Asn} {K : KV} {F : World → Prop} {C : Asn → List Asn} {b c : Nat} {x : ComS} {m : MemS}

def com0 : ComS := comNew 0 2 5 [] [⟨9, 7⟩] (marked (hasStripe [⟨9, 7⟩] 4 1) 16)
def mem0 : MemS := newMem ⟨32, 4, 1, 2, 5⟩
def want0 : List Int := [3, 4, 6, 7, 2, 5]

theorem runs0 : ∀ k : Nat, k < 6 → (alN k (com0, mem0)).1.pat.fin = 0 ∧ (comNext (alN k (com0, mem0)).1).1.kind = want0.getD k 0 ∧ (alN k (com0, mem0)).1.writing = decide (3 < k) := by decide +kernel

theorem ends0 : (alN 6 (com0, mem0)).1.pat.fin = 2 ∧ (alN 6 (com0, mem0)).1.writing = true ∧ (alN 6 (com0, mem0)).1.now = 5 ∧ (alN 6 (com0, mem0)).2.l = [zeroLock, ⟨6, false, 0⟩, zeroLock, zeroLock] ∧ (alN 6 (com0, mem0)).2.w.length = 32 ∧ (alN 6 (com0, mem0)).2.w[9]? = some 7 ∧ (alN 6 (com0, mem0)).2.n = 6 := by decide +kernel

theorem s_law25_CommitRuns (hK : G w0 L (K (.bool true))) : G w0 L (CP Tryz.prog Fn.law25_CommitRuns [] K) := by
  refine C_law25_CommitRuns ?_
  unfold S_law25_CommitRuns
  try simp (maxSteps := 2000000) only [fuse_and, fuse_or, fuse_step, fuse_pair, fuse_in, andP_true]
  try simp (maxSteps := 2000000) only [↓RG, RP, true_and, and_true, beq_true, beq_false, Bool.true_beq, Bool.false_beq, BEq.rfl, Int.reduceEq, Int.reduceLT, Int.reduceLE, Nat.reduceEqDiff, decide_true, decide_false, Bool.not_true, Bool.not_false, Bool.and_true, Bool.true_and, Bool.and_false, Bool.false_and, Bool.or_true, Bool.true_or, Bool.or_false, Bool.false_or, Bool.not_not]
  refine s_mem_New (s := ⟨32, 4, 1, 2, 5⟩) fun c => ?_
  try simp (maxSteps := 2000000) only [↓RG, RP, true_and, and_true, beq_true, beq_false, Bool.true_beq, Bool.false_beq, BEq.rfl, Int.reduceEq, Int.reduceLT, Int.reduceLE, Nat.reduceEqDiff, decide_true, decide_false, Bool.not_true, Bool.not_false, Bool.and_true, Bool.true_and, Bool.and_false, Bool.false_and, Bool.or_true, Bool.true_or, Bool.or_false, Bool.false_or, Bool.not_not]
  refine G.build tCellE [⟨9, 7⟩] rfl (by simp) rfl fun v hv => ?_
  refine G.nilsl tSeenE ?_
  refine s_commit_New (seen := []) (cells := [⟨9, 7⟩]) (by simp) (by simp) fun b => ?_
  try simp (maxSteps := 2000000) only [↓RG, RP, true_and, and_true, beq_true, beq_false, Bool.true_beq, Bool.false_beq, BEq.rfl, Int.reduceEq, Int.reduceLT, Int.reduceLE, Nat.reduceEqDiff, decide_true, decide_false, Bool.not_true, Bool.not_false, Bool.and_true, Bool.true_and, Bool.and_false, Bool.false_and, Bool.or_true, Bool.true_or, Bool.or_false, Bool.false_or, Bool.not_not]
  refine G.build intE [3, 4, 6, 7, 2, 5] rfl (by simp) rfl fun u hu => ?_
  have hok : ComOk com0 := comNew_ok (by simp) (by simp)
  show G w0 (sl intE u want0 :: ob ComR b com0 :: sl tSeenE (.slice none 0 0) [] :: sl tCellE v [⟨9, 7⟩] :: ob MemR c mem0 :: L) _
  refine G.sub (L' := sl intE u want0 :: ob ComR b com0 :: ob MemR c mem0 :: L) ?_
  refine G.loop1 (σ := Nat) (fun k => i64 k) (fun k => sl intE u want0 :: ob ComR b (alN k (com0, mem0)).1 :: ob MemR c (alN k (com0, mem0)).2 :: L) (fun k => k ≤ 6) (fun k => 6 - k) 0 rfl rfl (by omega) ?_
  intro k hk J hJ
  try simp (maxSteps := 2000000) only [↓RG, RP, true_and, and_true, beq_true, beq_false, Bool.true_beq, Bool.false_beq, BEq.rfl, Int.reduceEq, Int.reduceLT, Int.reduceLE, Nat.reduceEqDiff, decide_true, decide_false, Bool.not_true, Bool.not_false, Bool.and_true, Bool.true_and, Bool.and_false, Bool.false_and, Bool.or_true, Bool.true_or, Bool.or_false, Bool.false_or, Bool.not_not]
  refine G.cond (fun h => ?_) (fun h => ?_)
  · have hk2 : k < 6 := by simp [want0] at h; omega
    obtain ⟨r1, r2, r3⟩ := runs0 k hk2
    have hok := alN_ok (s := (com0, mem0)) hok k
    have hs : alN (k + 1) (com0, mem0) = alStep (alN k (com0, mem0)) := rfl
    have hn := hJ (k + 1) hk2 (by omega)
    rw [hs] at hn
    have e := elem_of (xs := want0) (k := k) hk2
    have hw : want0.getD k 0 = want0[k] := by rw [List.getD_eq_getElem?_getD, e.eq]; rfl
    rw [hw] at r2
    generalize alN k (com0, mem0) = s at *
    obtain ⟨y, z⟩ := s
    simp only at r1 r2 r3 hok ⊢
    have e : alStep (y, z) = (comTell y (memDo z (comNext y).1).2, (memDo z (comNext y).1).1) := by unfold alStep; rw [if_pos r1]
    rw [e] at hn
    refine s_commit_Commit_Next (x := y) hok ?_
    have e2 : (comNext y).2 = true := by unfold comNext; rw [if_pos r1]
    rw [e2]
    try simp (maxSteps := 2000000) only [↓RG, RP, true_and, and_true, beq_true, beq_false, Bool.true_beq, Bool.false_beq, BEq.rfl, Int.reduceEq, Int.reduceLT, Int.reduceLE, Nat.reduceEqDiff, decide_true, decide_false, Bool.not_true, Bool.not_false, Bool.and_true, Bool.true_and, Bool.and_false, Bool.false_and, Bool.or_true, Bool.true_or, Bool.or_false, Bool.false_or, Bool.not_not]
    refine G.new fun q => ?_
    repeat' (first | (with_reducible refine G.joini0 ?_) | (with_reducible refine G.joini1 ?_) | (with_reducible refine G.drew ?_) | (simp (maxSteps := 2000000) only [↓RG, RP, true_and, and_true, beq_true, beq_false, Bool.true_beq, Bool.false_beq, BEq.rfl, Int.reduceEq, Int.reduceLT, Int.reduceLE, Nat.reduceEqDiff, decide_true, decide_false, Bool.not_true, Bool.not_false, Bool.and_true, Bool.true_and, Bool.and_false, Bool.false_and, Bool.or_true, Bool.true_or, Bool.or_false, Bool.false_or, Bool.not_not, eq_true r2]))
    refine s_commit_Commit_Writing (x := y) ?_
    have e3 : (y.writing && decide (y.pat.fin = 0)) = decide ((3 : Int) < k) := by rw [r1, r3]; simp; omega
    rw [e3]
    repeat' (first | (with_reducible refine G.joini0 ?_) | (with_reducible refine G.joini1 ?_) | (with_reducible refine G.drew ?_) | (simp (maxSteps := 2000000) only [↓RG, RP, true_and, and_true, beq_true, beq_false, Bool.true_beq, Bool.false_beq, BEq.rfl, Int.reduceEq, Int.reduceLT, Int.reduceLE, Nat.reduceEqDiff, decide_true, decide_false, Bool.not_true, Bool.not_false, Bool.and_true, Bool.true_and, Bool.and_false, Bool.false_and, Bool.or_true, Bool.true_or, Bool.or_false, Bool.false_or, Bool.not_not]))
    refine s_mem_Mem_Do (m := z) (o := (comNext y).1) ?_
    refine s_commit_Commit_Tell (x := y) (a := (memDo z (comNext y).1).2) hok ?_
    try simp (maxSteps := 2000000) only [↓RG, RP, true_and, and_true, beq_true, beq_false, Bool.true_beq, Bool.false_beq, BEq.rfl, Int.reduceEq, Int.reduceLT, Int.reduceLE, Nat.reduceEqDiff, decide_true, decide_false, Bool.not_true, Bool.not_false, Bool.and_true, Bool.true_and, Bool.and_false, Bool.false_and, Bool.or_true, Bool.true_or, Bool.or_false, Bool.false_or, Bool.not_not]
    rw [wsucc (by omega)]
    exact hn.sub
  · have hk2 : k = 6 := by simp [want0] at h; omega
    subst hk2
    obtain ⟨f1, f2, f3, f4, f5, f6, f7⟩ := ends0
    generalize alN 6 (com0, mem0) = s at *
    obtain ⟨y, z⟩ := s
    simp only at f1 f2 f3 f4 f5 f6 f7 ⊢
    have f8 : z.l.length = 4 := by rw [f4]; rfl
    refine s_mem_Mem_Locks (m := z) (by omega) fun u1 hu1 => ?_
    refine s_mem_Mem_Words (m := z) (by omega) fun u2 hu2 => ?_
    refine s_commit_Commit_End (x := y) ?_
    rw [f1]
    repeat' (first | (with_reducible refine G.joini0 ?_) | (with_reducible refine G.joini1 ?_) | (with_reducible refine G.drew ?_) | (simp (maxSteps := 2000000) only [↓RG, RP, true_and, and_true, beq_true, beq_false, Bool.true_beq, Bool.false_beq, BEq.rfl, Int.reduceEq, Int.reduceLT, Int.reduceLE, Nat.reduceEqDiff, decide_true, decide_false, Bool.not_true, Bool.not_false, Bool.and_true, Bool.true_and, Bool.and_false, Bool.false_and, Bool.or_true, Bool.true_or, Bool.or_false, Bool.false_or, Bool.not_not]))
    refine s_commit_Commit_Stamp (x := y) ?_
    rw [if_pos f2, f3, show IntKind.wrap .u64 (5 + 1) = 6 by decide]
    have e9 : Elem z.w 9 7 := ⟨f6⟩
    have e10 : Elem z.l 1 ⟨6, false, 0⟩ := ⟨by rw [f4]; rfl⟩
    have f9 : (z.l.length : Int) = 4 := by omega
    have f10 : (z.w.length : Int) = 32 := by omega
    repeat' (first | (with_reducible refine G.joini0 ?_) | (with_reducible refine G.joini1 ?_) | (with_reducible refine G.drew ?_) | (simp (maxSteps := 2000000) only [↓RG, RP, true_and, and_true, beq_true, beq_false, Bool.true_beq, Bool.false_beq, BEq.rfl, Int.reduceEq, Int.reduceLT, Int.reduceLE, Nat.reduceEqDiff, decide_true, decide_false, Bool.not_true, Bool.not_false, Bool.and_true, Bool.true_and, Bool.and_false, Bool.false_and, Bool.or_true, Bool.true_or, Bool.or_false, Bool.false_or, Bool.not_not, f9, f10]))
    refine s_mem_Mem_Now (m := z) ?_
    rw [f7]
    repeat' (first | (with_reducible refine G.joini0 ?_) | (with_reducible refine G.joini1 ?_) | (with_reducible refine G.drew ?_) | (simp (maxSteps := 2000000) only [↓RG, RP, true_and, and_true, beq_true, beq_false, Bool.true_beq, Bool.false_beq, BEq.rfl, Int.reduceEq, Int.reduceLT, Int.reduceLE, Nat.reduceEqDiff, decide_true, decide_false, Bool.not_true, Bool.not_false, Bool.and_true, Bool.true_and, Bool.and_false, Bool.false_and, Bool.or_true, Bool.true_or, Bool.or_false, Bool.false_or, Bool.not_not]))
    exact hK.sub

end
end Go.Proofs.YtokbiojkpldfeaaGreat.S
