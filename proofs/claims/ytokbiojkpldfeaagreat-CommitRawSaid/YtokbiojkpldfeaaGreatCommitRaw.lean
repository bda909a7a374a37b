/-
  CHAPTER 25: any answers at all.
-/
import Derived.Test.YtokbiojkpldfeaaGreatCommitRel
import Derived.Test.YtokbiojkpldfeaaGreatCommitLaw
namespace Go.Proofs.YtokbiojkpldfeaaGreat.S
open Go Go.Proofs
set_option linter.unusedVariables false
set_option linter.unusedSimpArgs false

section
variable {w0 : Base} {L M : List Asn} {K : KV} {F : World → Prop} {C : Asn → List Asn} {b c : Nat} {x : ComS} {y : RCom}

set_option maxRecDepth 40000 in
set_option maxHeartbeats 4000000 in
theorem s_law25_Case_shape {k : TCase} {ss : List TSeen} {cs : List TCell} [a1 : Arg w0 k.seen.v tSeenE ss] [a2 : Arg w0 k.cs.v tCellE cs]
    (hK : ∀ (s : TShape) (v1 v2 : Value) (ss' : List TSeen) (cs' : List TCell) (me st : Int), Cells v1 [v1] → Cells v2 [v2] → ss'.length ≤ 6 → cs'.length ≤ 6 → G w0 (sl tSeenE v1 ss' :: sl tCellE v2 cs' :: L) (K (.tuple #[.agg (TShape.cells s).toArray, v1, v2, i64 me, u64 st]))) :
    G w0 L (CP Tryz.prog Fn.law25_Case_shape [.agg (TCase.cells k).toArray] K) := by
  refine C_law25_Case_shape ?_
  unfold S_law25_Case_shape
  try simp (maxSteps := 2000000) only [fuse_and, fuse_or, fuse_step, fuse_pair, fuse_in, andP_true]
  refine G.box fun x1 => ?_
  refine G.new fun x2 => ?_
  refine G.drew ?_
  have hst := held_le (n := within k.stripes 1 6) (show (1 : Int) ≤ 16 by omega)
  repeat' (first | (refine And.intro ?_ ?_) | (refine s_book_Within (by omega) (by omega) (by omega) (by omega) ?_) | (refine s_ref1_Shape (s := ⟨40, within k.stripes 1 6, within k.wide 1 3, 4, k.start.tmod 6⟩) ?_) | (refine G.new fun x14 => ?_) | (simp (maxSteps := 2000000) only [↓RG, RP, true_and, and_true, beq_true, beq_false, Bool.true_beq, Bool.false_beq, BEq.rfl, Int.reduceEq, Int.reduceLT, Int.reduceLE, Nat.reduceEqDiff, decide_true, decide_false, Bool.not_true, Bool.not_false, Bool.and_true, Bool.true_and, Bool.and_false, Bool.false_and, Bool.or_true, Bool.true_or, Bool.or_false, Bool.false_or, Bool.not_not]))
  all_goals
    obtain ⟨sh, hsh, hs1⟩ : ∃ sh : TShape, heldShape ⟨40, within k.stripes 1 6, within k.wide 1 3, 4, k.start.tmod 6⟩ = sh ∧ 1 ≤ sh.stripes ∧ sh.stripes ≤ 16 := ⟨_, rfl, hst⟩
    rw [hsh]
    refine G.join0 (σ := Int) (fun st => own x14 [i64 sh.words, i64 sh.stripes, i64 sh.wide, i64 sh.threads, u64 st] :: own x1 (TCase.cells k) :: own x2 [i64 0, i64 0, i64 0, i64 0, u64 0] :: L) (fun _ => True) (fun st _ => ?_) (fun J hJ => ?_)
    · refine G.nilsl tSeenE ?_
      refine G.loop2 (σ := Value × List TSeen × Nat) (fun z => z.1) (fun z => i64 z.2.2) (fun z => sl tSeenE z.1 z.2.1 :: own x14 [i64 sh.words, i64 sh.stripes, i64 sh.wide, i64 sh.threads, u64 st] :: own x1 (TCase.cells k) :: own x2 [i64 0, i64 0, i64 0, i64 0, u64 0] :: L) (fun z => z.2.2 ≤ 6 ∧ z.2.1.length = z.2.2 ∧ Cells z.1 [z.1]) (fun z => 6 - z.2.2) (.slice none 0 0, [], 0) rfl rfl rfl ⟨by simp, rfl, cells_slice⟩ ?_
      rintro ⟨u, l, i⟩ ⟨hi, hl, hu⟩ J hJ
      simp only at hi hl hu hJ ⊢
      try simp (maxSteps := 2000000) only [↓RG, RP, true_and, and_true, beq_true, beq_false, Bool.true_beq, Bool.false_beq, BEq.rfl, Int.reduceEq, Int.reduceLT, Int.reduceLE, Nat.reduceEqDiff, decide_true, decide_false, Bool.not_true, Bool.not_false, Bool.and_true, Bool.true_and, Bool.and_false, Bool.false_and, Bool.or_true, Bool.true_or, Bool.or_false, Bool.false_or, Bool.not_not]
      refine G.cond (fun h => ?_) (fun h => ?_)
      · have hi2 : i < ss.length ∧ i < 6 := by simp at h; omega
        have e := elem_of hi2.1
        have w1 : IntKind.wrap .i64 (sh.stripes - 1) = sh.stripes - 1 := wi64 (by omega) (by omega)
        repeat' (first | (with_reducible refine G.joini0 ?_) | (with_reducible refine G.joini1 ?_) | (with_reducible refine G.drew ?_) | (simp (maxSteps := 2000000) only [↓RG, RP, true_and, and_true, beq_true, beq_false, Bool.true_beq, Bool.false_beq, BEq.rfl, Int.reduceEq, Int.reduceLT, Int.reduceLE, Nat.reduceEqDiff, decide_true, decide_false, Bool.not_true, Bool.not_false, Bool.and_true, Bool.true_and, Bool.and_false, Bool.false_and, Bool.or_true, Bool.true_or, Bool.or_false, Bool.false_or, Bool.not_not, w1]))
        refine s_book_Within (by omega) (by omega) (by omega) (by omega) ?_
        repeat' (first | (with_reducible refine G.joini0 ?_) | (with_reducible refine G.joini1 ?_) | (with_reducible refine G.drew ?_) | (simp (maxSteps := 2000000) only [↓RG, RP, true_and, and_true, beq_true, beq_false, Bool.true_beq, Bool.false_beq, BEq.rfl, Int.reduceEq, Int.reduceLT, Int.reduceLE, Nat.reduceEqDiff, decide_true, decide_false, Bool.not_true, Bool.not_false, Bool.and_true, Bool.true_and, Bool.and_false, Bool.false_and, Bool.or_true, Bool.true_or, Bool.or_false, Bool.false_or, Bool.not_not]))
        refine G.build tSeenE [⟨within ss[i].stripe 0 (sh.stripes - 1), IntKind.wrap .u64 ((ss[i].version.tmod 8).tdiv 7)⟩] rfl (by simp) rfl fun v hv => ?_
        repeat' (first | (with_reducible refine G.joini0 ?_) | (with_reducible refine G.joini1 ?_) | (with_reducible refine G.drew ?_) | (simp (maxSteps := 2000000) only [↓RG, RP, true_and, and_true, beq_true, beq_false, Bool.true_beq, Bool.false_beq, BEq.rfl, Int.reduceEq, Int.reduceLT, Int.reduceLE, Nat.reduceEqDiff, decide_true, decide_false, Bool.not_true, Bool.not_false, Bool.and_true, Bool.true_and, Bool.and_false, Bool.false_and, Bool.or_true, Bool.true_or, Bool.or_false, Bool.false_or, Bool.not_not]))
        refine G.append (xs := l) (ys := [⟨within ss[i].stripe 0 (sh.stripes - 1), IntKind.wrap .u64 ((ss[i].version.tmod 8).tdiv 7)⟩]) (by simp; omega) (by simp [maxLen]; omega) fun u2 hu2 => ?_
        repeat' (first | (with_reducible refine G.joini0 ?_) | (with_reducible refine G.joini1 ?_) | (with_reducible refine G.drew ?_) | (simp (maxSteps := 2000000) only [↓RG, RP, true_and, and_true, beq_true, beq_false, Bool.true_beq, Bool.false_beq, BEq.rfl, Int.reduceEq, Int.reduceLT, Int.reduceLE, Nat.reduceEqDiff, decide_true, decide_false, Bool.not_true, Bool.not_false, Bool.and_true, Bool.true_and, Bool.and_false, Bool.false_and, Bool.or_true, Bool.true_or, Bool.or_false, Bool.false_or, Bool.not_not]))
        rw [wsucc (by omega)]
        exact (hJ (u2, l ++ [⟨within ss[i].stripe 0 (sh.stripes - 1), IntKind.wrap .u64 ((ss[i].version.tmod 8).tdiv 7)⟩], i + 1) ⟨hi2.2, by simp [hl], hu2⟩ (by simp; omega)).sub
      · refine G.nilsl tCellE ?_
        refine G.loop2 (σ := Value × List TCell × Nat) (fun z => z.1) (fun z => i64 z.2.2) (fun z => sl tCellE z.1 z.2.1 :: sl tSeenE u l :: own x14 [i64 sh.words, i64 sh.stripes, i64 sh.wide, i64 sh.threads, u64 st] :: own x1 (TCase.cells k) :: own x2 [i64 0, i64 0, i64 0, i64 0, u64 0] :: L) (fun z => z.2.2 ≤ 6 ∧ z.2.1.length = z.2.2 ∧ Cells z.1 [z.1]) (fun z => 6 - z.2.2) (.slice none 0 0, [], 0) rfl rfl rfl ⟨by simp, rfl, cells_slice⟩ ?_
        rintro ⟨u1, l1, i1⟩ ⟨hi1, hl1, hu1⟩ J1 hJ1
        simp only at hi1 hl1 hu1 hJ1 ⊢
        try simp (maxSteps := 2000000) only [↓RG, RP, true_and, and_true, beq_true, beq_false, Bool.true_beq, Bool.false_beq, BEq.rfl, Int.reduceEq, Int.reduceLT, Int.reduceLE, Nat.reduceEqDiff, decide_true, decide_false, Bool.not_true, Bool.not_false, Bool.and_true, Bool.true_and, Bool.and_false, Bool.false_and, Bool.or_true, Bool.true_or, Bool.or_false, Bool.false_or, Bool.not_not]
        refine G.cond (fun h => ?_) (fun h => ?_)
        · have hi2 : i1 < cs.length ∧ i1 < 6 := by simp at h; omega
          have e := elem_of hi2.1
          repeat' (first | (with_reducible refine G.joini0 ?_) | (with_reducible refine G.joini1 ?_) | (with_reducible refine G.drew ?_) | (simp (maxSteps := 2000000) only [↓RG, RP, true_and, and_true, beq_true, beq_false, Bool.true_beq, Bool.false_beq, BEq.rfl, Int.reduceEq, Int.reduceLT, Int.reduceLE, Nat.reduceEqDiff, decide_true, decide_false, Bool.not_true, Bool.not_false, Bool.and_true, Bool.true_and, Bool.and_false, Bool.false_and, Bool.or_true, Bool.true_or, Bool.or_false, Bool.false_or, Bool.not_not]))
          refine s_book_Within (by omega) (by omega) (by omega) (by omega) ?_
          repeat' (first | (with_reducible refine G.joini0 ?_) | (with_reducible refine G.joini1 ?_) | (with_reducible refine G.drew ?_) | (simp (maxSteps := 2000000) only [↓RG, RP, true_and, and_true, beq_true, beq_false, Bool.true_beq, Bool.false_beq, BEq.rfl, Int.reduceEq, Int.reduceLT, Int.reduceLE, Nat.reduceEqDiff, decide_true, decide_false, Bool.not_true, Bool.not_false, Bool.and_true, Bool.true_and, Bool.and_false, Bool.false_and, Bool.or_true, Bool.true_or, Bool.or_false, Bool.false_or, Bool.not_not]))
          refine G.build tCellE [⟨within cs[i1].place 1 39, cs[i1].word⟩] rfl (by simp) rfl fun v hv => ?_
          repeat' (first | (with_reducible refine G.joini0 ?_) | (with_reducible refine G.joini1 ?_) | (with_reducible refine G.drew ?_) | (simp (maxSteps := 2000000) only [↓RG, RP, true_and, and_true, beq_true, beq_false, Bool.true_beq, Bool.false_beq, BEq.rfl, Int.reduceEq, Int.reduceLT, Int.reduceLE, Nat.reduceEqDiff, decide_true, decide_false, Bool.not_true, Bool.not_false, Bool.and_true, Bool.true_and, Bool.and_false, Bool.false_and, Bool.or_true, Bool.true_or, Bool.or_false, Bool.false_or, Bool.not_not]))
          refine G.append (xs := l1) (ys := [⟨within cs[i1].place 1 39, cs[i1].word⟩]) (by simp; omega) (by simp [maxLen]; omega) fun u2 hu2 => ?_
          repeat' (first | (with_reducible refine G.joini0 ?_) | (with_reducible refine G.joini1 ?_) | (with_reducible refine G.drew ?_) | (simp (maxSteps := 2000000) only [↓RG, RP, true_and, and_true, beq_true, beq_false, Bool.true_beq, Bool.false_beq, BEq.rfl, Int.reduceEq, Int.reduceLT, Int.reduceLE, Nat.reduceEqDiff, decide_true, decide_false, Bool.not_true, Bool.not_false, Bool.and_true, Bool.true_and, Bool.and_false, Bool.false_and, Bool.or_true, Bool.true_or, Bool.or_false, Bool.false_or, Bool.not_not]))
          rw [wsucc (by omega)]
          exact (hJ1 (u2, l1 ++ [⟨within cs[i1].place 1 39, cs[i1].word⟩], i1 + 1) ⟨hi2.2, by simp [hl1], hu2⟩ (by simp; omega)).sub
        · repeat' (first | (with_reducible refine G.joini0 ?_) | (with_reducible refine G.joini1 ?_) | (with_reducible refine G.drew ?_) | (simp (maxSteps := 2000000) only [↓RG, RP, true_and, and_true, beq_true, beq_false, Bool.true_beq, Bool.false_beq, BEq.rfl, Int.reduceEq, Int.reduceLT, Int.reduceLE, Nat.reduceEqDiff, decide_true, decide_false, Bool.not_true, Bool.not_false, Bool.and_true, Bool.true_and, Bool.and_false, Bool.false_and, Bool.or_true, Bool.true_or, Bool.or_false, Bool.false_or, Bool.not_not]))
          refine s_book_Within (by omega) (by omega) (by omega) (by omega) ?_
          repeat' (first | (with_reducible refine G.joini0 ?_) | (with_reducible refine G.joini1 ?_) | (with_reducible refine G.drew ?_) | (simp (maxSteps := 2000000) only [↓RG, RP, true_and, and_true, beq_true, beq_false, Bool.true_beq, Bool.false_beq, BEq.rfl, Int.reduceEq, Int.reduceLT, Int.reduceLE, Nat.reduceEqDiff, decide_true, decide_false, Bool.not_true, Bool.not_false, Bool.and_true, Bool.true_and, Bool.and_false, Bool.false_and, Bool.or_true, Bool.true_or, Bool.or_false, Bool.false_or, Bool.not_not]))
          refine s_book_Within (by omega) (by omega) (by omega) (by omega) ?_
          repeat' (first | (with_reducible refine G.joini0 ?_) | (with_reducible refine G.joini1 ?_) | (with_reducible refine G.drew ?_) | (simp (maxSteps := 2000000) only [↓RG, RP, true_and, and_true, beq_true, beq_false, Bool.true_beq, Bool.false_beq, BEq.rfl, Int.reduceEq, Int.reduceLT, Int.reduceLE, Nat.reduceEqDiff, decide_true, decide_false, Bool.not_true, Bool.not_false, Bool.and_true, Bool.true_and, Bool.and_false, Bool.false_and, Bool.or_true, Bool.true_or, Bool.or_false, Bool.false_or, Bool.not_not]))
          exact (hK ⟨sh.words, sh.stripes, sh.wide, sh.threads, st⟩ u u1 l l1 _ _ hu hu1 (by omega) (by omega)).sub
    · refine G.cond (fun h => ?_) (fun h => ?_)
      · try simp (maxSteps := 2000000) only [↓RG, RP, true_and, and_true, beq_true, beq_false, Bool.true_beq, Bool.false_beq, BEq.rfl, Int.reduceEq, Int.reduceLT, Int.reduceLE, Nat.reduceEqDiff, decide_true, decide_false, Bool.not_true, Bool.not_false, Bool.and_true, Bool.true_and, Bool.and_false, Bool.false_and, Bool.or_true, Bool.true_or, Bool.or_false, Bool.false_or, Bool.not_not]
        exact (hJ (IntKind.wrap .u64 (4611686018427387903 - k.start.tmod 3)) trivial).sub
      · exact (hJ sh.start trivial).sub

set_option maxRecDepth 40000 in
set_option maxHeartbeats 4000000 in
theorem s_law25_CommitRaw {k : TCase} {l : Value} {qs : List TAns} [a1 : Arg w0 l tAnsE qs] (hq0 : TCase.Q w0 k) (hK : G w0 L (K (.bool true))) : G w0 L (CP Tryz.prog Fn.law25_CommitRaw [.agg (TCase.cells k).toArray, l] K) := by
  obtain ⟨⟨ss, hss⟩, ⟨cs, hcs⟩, _⟩ := hq0
  refine C_law25_CommitRaw ?_
  unfold S_law25_CommitRaw
  try simp (maxSteps := 2000000) only [fuse_and, fuse_or, fuse_step, fuse_pair, fuse_in, andP_true]
  refine G.box fun x1 => ?_
  refine s_law25_CommitRuns ?_
  try simp (maxSteps := 2000000) only [↓RG, RP, true_and, and_true, beq_true, beq_false, Bool.true_beq, Bool.false_beq, BEq.rfl, Int.reduceEq, Int.reduceLT, Int.reduceLE, Nat.reduceEqDiff, decide_true, decide_false, Bool.not_true, Bool.not_false, Bool.and_true, Bool.true_and, Bool.and_false, Bool.false_and, Bool.or_true, Bool.true_or, Bool.or_false, Bool.false_or, Bool.not_not]
  refine s_law25_Case_shape (k := k) (ss := ss) (cs := cs) fun sh v1 v2 s1 c1 me st hv1 hv2 hl1 hl2 => ?_
  try simp (maxSteps := 2000000) only [↓RG, RP, true_and, and_true, beq_true, beq_false, Bool.true_beq, Bool.false_beq, BEq.rfl, Int.reduceEq, Int.reduceLT, Int.reduceLE, Nat.reduceEqDiff, decide_true, decide_false, Bool.not_true, Bool.not_false, Bool.and_true, Bool.true_and, Bool.and_false, Bool.false_and, Bool.or_true, Bool.true_or, Bool.or_false, Bool.false_or, Bool.not_not]
  refine G.new fun x11 => ?_
  repeat' (first | (with_reducible refine G.joini0 ?_) | (with_reducible refine G.joini1 ?_) | (with_reducible refine G.drew ?_) | (simp (maxSteps := 2000000) only [↓RG, RP, true_and, and_true, beq_true, beq_false, Bool.true_beq, Bool.false_beq, BEq.rfl, Int.reduceEq, Int.reduceLT, Int.reduceLE, Nat.reduceEqDiff, decide_true, decide_false, Bool.not_true, Bool.not_false, Bool.and_true, Bool.true_and, Bool.and_false, Bool.false_and, Bool.or_true, Bool.true_or, Bool.or_false, Bool.false_or, Bool.not_not]))
  refine s_commit_New (seen := s1) (cells := c1) (by omega) (by omega) fun b => ?_
  repeat' (first | (with_reducible refine G.joini0 ?_) | (with_reducible refine G.joini1 ?_) | (with_reducible refine G.drew ?_) | (simp (maxSteps := 2000000) only [↓RG, RP, true_and, and_true, beq_true, beq_false, Bool.true_beq, Bool.false_beq, BEq.rfl, Int.reduceEq, Int.reduceLT, Int.reduceLE, Nat.reduceEqDiff, decide_true, decide_false, Bool.not_true, Bool.not_false, Bool.and_true, Bool.true_and, Bool.and_false, Bool.false_and, Bool.or_true, Bool.true_or, Bool.or_false, Bool.false_or, Bool.not_not]))
  refine s_ref23_NewCommit (seen := s1) (cells := c1) (by omega) (by omega) fun c => ?_
  repeat' (first | (with_reducible refine G.joini0 ?_) | (with_reducible refine G.joini1 ?_) | (with_reducible refine G.drew ?_) | (simp (maxSteps := 2000000) only [↓RG, RP, true_and, and_true, beq_true, beq_false, Bool.true_beq, Bool.false_beq, BEq.rfl, Int.reduceEq, Int.reduceLT, Int.reduceLE, Nat.reduceEqDiff, decide_true, decide_false, Bool.not_true, Bool.not_false, Bool.and_true, Bool.true_and, Bool.and_false, Bool.false_and, Bool.or_true, Bool.true_or, Bool.or_false, Bool.false_or, Bool.not_not]))
  have hok := comNew_ok (me := k.me) (sp := k.spins) (stamp := IntKind.wrap .u64 k.stamp) (n := k.stripes) (wide := k.wide) (seen := s1) (cells := c1) (by omega) (by omega)
  generalize marked (hasStripe c1 k.stripes k.wide) 16 = S at hok ⊢
  refine G.sub (L' := ob RComR c (rNew k.me k.spins (IntKind.wrap .u64 k.stamp) s1 c1 S) :: ob ComR b (comNew k.me k.spins (IntKind.wrap .u64 k.stamp) s1 c1 S) :: L) ?_
  refine G.loop1 (σ := Nat × ComS × RCom) (fun s => i64 s.1) (fun s => ob RComR c s.2.2 :: ob ComR b s.2.1 :: L) (fun s => s.1 ≤ 60 ∧ CRel s.2.1 s.2.2) (fun s => 60 - s.1) (0, comNew k.me k.spins (IntKind.wrap .u64 k.stamp) s1 c1 S, rNew k.me k.spins (IntKind.wrap .u64 k.stamp) s1 c1 S) rfl rfl ⟨by simp, CRel.new _ _ _ _ _ _ hok⟩ ?_
  rintro ⟨i, x, y⟩ ⟨hi, hr⟩ J hJ
  simp only at hi hr hJ ⊢
  try simp (maxSteps := 2000000) only [↓RG, RP, true_and, and_true, beq_true, beq_false, Bool.true_beq, Bool.false_beq, BEq.rfl, Int.reduceEq, Int.reduceLT, Int.reduceLE, Nat.reduceEqDiff, decide_true, decide_false, Bool.not_true, Bool.not_false, Bool.and_true, Bool.true_and, Bool.and_false, Bool.false_and, Bool.or_true, Bool.true_or, Bool.or_false, Bool.false_or, Bool.not_not]
  refine G.cond (fun h => ?_) (fun h => hK.sub)
  have hi2 : i < 60 := by simp at h; omega
  have hfin : y.pat.fin = x.pat.fin := hr.fin
  obtain ⟨o, e1, e2, e3⟩ : ∃ o, comNext x = (o, decide (x.pat.fin = 0)) ∧ (x.pat.fin = 0 → rNext y = o) ∧ (x.pat.fin ≠ 0 → o = zeroOp) := by
    by_cases hf : x.pat.fin = 0
    · exact ⟨rNext y, by rw [hr.next hf, hf]; rfl, fun _ => rfl, fun h => absurd hf h⟩
    · refine ⟨zeroOp, ?_, fun h => absurd h hf, fun _ => rfl⟩
      unfold comNext
      rw [if_neg hf, decide_eq_false hf]
  refine s_commit_Commit_Next (x := x) hr.ok ?_
  rw [e1]
  try simp (maxSteps := 2000000) only [↓RG, RP, true_and, and_true, beq_true, beq_false, Bool.true_beq, Bool.false_beq, BEq.rfl, Int.reduceEq, Int.reduceLT, Int.reduceLE, Nat.reduceEqDiff, decide_true, decide_false, Bool.not_true, Bool.not_false, Bool.and_true, Bool.true_and, Bool.and_false, Bool.false_and, Bool.or_true, Bool.true_or, Bool.or_false, Bool.false_or, Bool.not_not]
  refine G.new fun p1 => ?_
  try simp (maxSteps := 2000000) only [↓RG, RP, true_and, and_true, beq_true, beq_false, Bool.true_beq, Bool.false_beq, BEq.rfl, Int.reduceEq, Int.reduceLT, Int.reduceLE, Nat.reduceEqDiff, decide_true, decide_false, Bool.not_true, Bool.not_false, Bool.and_true, Bool.true_and, Bool.and_false, Bool.false_and, Bool.or_true, Bool.true_or, Bool.or_false, Bool.false_or, Bool.not_not]
  refine G.new fun p2 => ?_
  refine G.take1 RComR c ?_
  rw [RComR_open]
  rintro z1 z2 z3 z4 hz
  try simp (maxSteps := 2000000) only [↓RG, RP, true_and, and_true, beq_true, beq_false, Bool.true_beq, Bool.false_beq, BEq.rfl, Int.reduceEq, Int.reduceLT, Int.reduceLE, Nat.reduceEqDiff, decide_true, decide_false, Bool.not_true, Bool.not_false, Bool.and_true, Bool.true_and, Bool.and_false, Bool.false_and, Bool.or_true, Bool.true_or, Bool.or_false, Bool.false_or, Bool.not_not, Nat.reduceAdd, hfin]
  refine RComR_close c y hz ?_
  refine G.sub (L' := own p2 [i64 0, i64 0, u64 0, u64 0, u64 0, .bool false, i64 0, u64 0, .bool false, i64 0] :: ob RComR c y :: own p1 (TOp.cells o) :: ob ComR b x :: L) ?_
  refine G.join0 (σ := Unit) (fun _ => own p2 (TOp.cells o) :: ob RComR c y :: own p1 (TOp.cells o) :: ob ComR b x :: L) (fun _ => True) (fun _ _ => ?_) (fun J2 hJ2 => ?_)
  · refine G.take1 RComR c ?_
    rw [RComR_open]
    rintro z1 z2 z3 z4 hz
    refine G.drew ?_
    try simp (maxSteps := 2000000) only [↓RG, RP, true_and, and_true, beq_true, beq_false, Bool.true_beq, Bool.false_beq, BEq.rfl, Int.reduceEq, Int.reduceLT, Int.reduceLE, Nat.reduceEqDiff, decide_true, decide_false, Bool.not_true, Bool.not_false, Bool.and_true, Bool.true_and, Bool.and_false, Bool.false_and, Bool.or_true, Bool.true_or, Bool.or_false, Bool.false_or, Bool.not_not, Nat.reduceAdd, hfin]
    refine s_commit_Commit_End (x := x) ?_
    repeat' (first | (with_reducible refine G.joini0 ?_) | (with_reducible refine G.joini1 ?_) | (with_reducible refine G.drew ?_) | (simp (maxSteps := 2000000) only [↓RG, RP, true_and, and_true, beq_true, beq_false, Bool.true_beq, Bool.false_beq, BEq.rfl, Int.reduceEq, Int.reduceLT, Int.reduceLE, Nat.reduceEqDiff, decide_true, decide_false, Bool.not_true, Bool.not_false, Bool.and_true, Bool.true_and, Bool.and_false, Bool.false_and, Bool.or_true, Bool.true_or, Bool.or_false, Bool.false_or, Bool.not_not, Nat.reduceAdd, hfin]))
    refine s_commit_Commit_Err (x := x) ?_
    repeat' (first | (with_reducible refine G.joini0 ?_) | (with_reducible refine G.joini1 ?_) | (with_reducible refine G.drew ?_) | (simp (maxSteps := 2000000) only [↓RG, RP, true_and, and_true, beq_true, beq_false, Bool.true_beq, Bool.false_beq, BEq.rfl, Int.reduceEq, Int.reduceLT, Int.reduceLE, Nat.reduceEqDiff, decide_true, decide_false, Bool.not_true, Bool.not_false, Bool.and_true, Bool.true_and, Bool.and_false, Bool.false_and, Bool.or_true, Bool.true_or, Bool.or_false, Bool.false_or, Bool.not_not, Nat.reduceAdd, hr.err]))
    refine s_commit_Commit_By (x := x) ?_
    repeat' (first | (with_reducible refine G.joini0 ?_) | (with_reducible refine G.joini1 ?_) | (with_reducible refine G.drew ?_) | (simp (maxSteps := 2000000) only [↓RG, RP, true_and, and_true, beq_true, beq_false, Bool.true_beq, Bool.false_beq, BEq.rfl, Int.reduceEq, Int.reduceLT, Int.reduceLE, Nat.reduceEqDiff, decide_true, decide_false, Bool.not_true, Bool.not_false, Bool.and_true, Bool.true_and, Bool.and_false, Bool.false_and, Bool.or_true, Bool.true_or, Bool.or_false, Bool.false_or, Bool.not_not, Nat.reduceAdd, hr.by_]))
    refine RComR_close c y hz ?_
    refine G.cond (fun h3 => ?_) (fun h3 => ?_)
    · have hk2 : i < qs.length := by simpa using h3
      have e := elem_of hk2
      try simp (maxSteps := 2000000) only [↓RG, RP, true_and, and_true, beq_true, beq_false, Bool.true_beq, Bool.false_beq, BEq.rfl, Int.reduceEq, Int.reduceLT, Int.reduceLE, Nat.reduceEqDiff, decide_true, decide_false, Bool.not_true, Bool.not_false, Bool.and_true, Bool.true_and, Bool.and_false, Bool.false_and, Bool.or_true, Bool.true_or, Bool.or_false, Bool.false_or, Bool.not_not]
      refine G.new fun p4 => ?_
      try simp (maxSteps := 2000000) only [↓RG, RP, true_and, and_true, beq_true, beq_false, Bool.true_beq, Bool.false_beq, BEq.rfl, Int.reduceEq, Int.reduceLT, Int.reduceLE, Nat.reduceEqDiff, decide_true, decide_false, Bool.not_true, Bool.not_false, Bool.and_true, Bool.true_and, Bool.and_false, Bool.false_and, Bool.or_true, Bool.true_or, Bool.or_false, Bool.false_or, Bool.not_not]
      refine G.join0 (σ := TAns) (fun q => own p4 (TAns.cells q) :: ob RComR c y :: ob ComR b x :: L) (fun _ => True) (fun q _ => ?_) (fun J4 hJ4 => ?_)
      · try simp (maxSteps := 2000000) only [↓RG, RP, true_and, and_true, beq_true, beq_false, Bool.true_beq, Bool.false_beq, BEq.rfl, Int.reduceEq, Int.reduceLT, Int.reduceLE, Nat.reduceEqDiff, decide_true, decide_false, Bool.not_true, Bool.not_false, Bool.and_true, Bool.true_and, Bool.and_false, Bool.false_and, Bool.or_true, Bool.true_or, Bool.or_false, Bool.false_or, Bool.not_not]
        refine G.join0 (σ := TAns) (fun q => own p4 (TAns.cells q) :: ob RComR c y :: ob ComR b x :: L) (fun _ => True) (fun q _ => ?_) (fun J5 hJ5 => ?_)
        · try simp (maxSteps := 2000000) only [↓RG, RP, true_and, and_true, beq_true, beq_false, Bool.true_beq, Bool.false_beq, BEq.rfl, Int.reduceEq, Int.reduceLT, Int.reduceLE, Nat.reduceEqDiff, decide_true, decide_false, Bool.not_true, Bool.not_false, Bool.and_true, Bool.true_and, Bool.and_false, Bool.false_and, Bool.or_true, Bool.true_or, Bool.or_false, Bool.false_or, Bool.not_not]
          refine s_commit_Commit_Tell (x := x) (a := q) hr.ok ?_
          try simp (maxSteps := 2000000) only [↓RG, RP, true_and, and_true, beq_true, beq_false, Bool.true_beq, Bool.false_beq, BEq.rfl, Int.reduceEq, Int.reduceLT, Int.reduceLE, Nat.reduceEqDiff, decide_true, decide_false, Bool.not_true, Bool.not_false, Bool.and_true, Bool.true_and, Bool.and_false, Bool.false_and, Bool.or_true, Bool.true_or, Bool.or_false, Bool.false_or, Bool.not_not]
          refine s_ref23_Commit_Tell (x := y) (a := q) (fun h => hr.rok (by rw [← hfin]; exact h)) ?_
          try simp (maxSteps := 2000000) only [↓RG, RP, true_and, and_true, beq_true, beq_false, Bool.true_beq, Bool.false_beq, BEq.rfl, Int.reduceEq, Int.reduceLT, Int.reduceLE, Nat.reduceEqDiff, decide_true, decide_false, Bool.not_true, Bool.not_false, Bool.and_true, Bool.true_and, Bool.and_false, Bool.false_and, Bool.or_true, Bool.true_or, Bool.or_false, Bool.false_or, Bool.not_not]
          rw [wsucc (by omega)]
          exact (hJ (i + 1, comTell x q, rTell y q) ⟨by omega, hr.tell q⟩ (by simp; omega)).sub
        · refine G.cond (fun h4 => ?_) (fun h4 => ?_)
          · try simp (maxSteps := 2000000) only [↓RG, RP, true_and, and_true, beq_true, beq_false, Bool.true_beq, Bool.false_beq, BEq.rfl, Int.reduceEq, Int.reduceLT, Int.reduceLE, Nat.reduceEqDiff, decide_true, decide_false, Bool.not_true, Bool.not_false, Bool.and_true, Bool.true_and, Bool.and_false, Bool.false_and, Bool.or_true, Bool.true_or, Bool.or_false, Bool.false_or, Bool.not_not, Nat.reduceAdd]
            exact hJ5 ⟨q.word, ⟨q.lock.version.tmod 2, false, 0⟩, true, q.err⟩ trivial
          · exact hJ5 q trivial
      · refine G.cond (fun h4 => ?_) (fun h4 => ?_)
        · try simp (maxSteps := 2000000) only [↓RG, RP, true_and, and_true, beq_true, beq_false, Bool.true_beq, Bool.false_beq, BEq.rfl, Int.reduceEq, Int.reduceLT, Int.reduceLE, Nat.reduceEqDiff, decide_true, decide_false, Bool.not_true, Bool.not_false, Bool.and_true, Bool.true_and, Bool.and_false, Bool.false_and, Bool.or_true, Bool.true_or, Bool.or_false, Bool.false_or, Bool.not_not]
          exact (hJ4 ⟨qs[i].word, qs[i].lock, qs[i].done, 0⟩ trivial).sub
        · exact (hJ4 qs[i] trivial).sub
    · rw [wsucc (by omega)]
      exact (hJ (i + 1, x, y) ⟨by omega, hr⟩ (by simp; omega)).sub
  · by_cases hf : x.pat.fin = 0
    · try simp (maxSteps := 2000000) only [↓RG, RP, true_and, and_true, beq_true, beq_false, Bool.true_beq, Bool.false_beq, BEq.rfl, Int.reduceEq, Int.reduceLT, Int.reduceLE, Nat.reduceEqDiff, decide_true, decide_false, Bool.not_true, Bool.not_false, Bool.and_true, Bool.true_and, Bool.and_false, Bool.false_and, Bool.or_true, Bool.true_or, Bool.or_false, Bool.false_or, Bool.not_not, hf]
      refine s_ref23_Commit_Next (x := y) (hr.rok hf) ?_
      rw [e2 hf]
      try simp (maxSteps := 2000000) only [↓RG, RP, true_and, and_true, beq_true, beq_false, Bool.true_beq, Bool.false_beq, BEq.rfl, Int.reduceEq, Int.reduceLT, Int.reduceLE, Nat.reduceEqDiff, decide_true, decide_false, Bool.not_true, Bool.not_false, Bool.and_true, Bool.true_and, Bool.and_false, Bool.false_and, Bool.or_true, Bool.true_or, Bool.or_false, Bool.false_or, Bool.not_not]
      exact (hJ2 () trivial).sub
    · have hz2 := e3 hf
      subst hz2
      try simp (maxSteps := 2000000) only [↓RG, RP, true_and, and_true, beq_true, beq_false, Bool.true_beq, Bool.false_beq, BEq.rfl, Int.reduceEq, Int.reduceLT, Int.reduceLE, Nat.reduceEqDiff, decide_true, decide_false, Bool.not_true, Bool.not_false, Bool.and_true, Bool.true_and, Bool.and_false, Bool.false_and, Bool.or_true, Bool.true_or, Bool.or_false, Bool.false_or, Bool.not_not, hf]
      have hj := hJ2 () trivial
      simp only [zeroOp, zeroLock] at hj ⊢
      exact hj.sub

end
end Go.Proofs.YtokbiojkpldfeaaGreat.S
