/-
  CHAPTER 24: anything that was seen, any answers.
-/
import Derived.Test.YtaghnmllaghcbaaExtRel
import Derived.Test.YtaghnmllaghcbaaExtendLaw
namespace Go.Proofs.Ytaghnmllaghcbaa.S
open Go Go.Proofs
set_option linter.unusedVariables false
set_option linter.unusedSimpArgs false

section
variable {w0 : World} {L M : List Asn} {K : KV} {F : World → Prop} {C : Asn → List Asn} {b : Nat} {x y : ExtS}

theorem extNext_going (h : ExtRel x y) (hf : x.pat.fin = 0) : extNext x = (rextNext y, true) := by
  unfold extNext rextNext
  rw [if_pos hf, h.loaded, h.seen, h.pos]
  split <;> rfl

theorem extTell_seen (x : ExtS) (a : TAns) : (extTell x a).seen = x.seen := by
  unfold extTell extDone
  repeat' split
  all_goals rfl

set_option maxRecDepth 20000 in
set_option maxHeartbeats 4000000 in
theorem s_law24_ExtendPlays {me sp : Int} {u l : Value} {xs : List TSeen} {qs : List TAns} {raw : Bool} [a0 : Arg w0 u tSeenE xs] [a1 : Arg w0 l tAnsE qs] (hK : G w0 L (K (.bool true))) :
    G w0 L (CP Try.prog Fn.law24_ExtendPlays [i64 me, i64 sp, u, l, .bool raw] K) := by
  refine C_law24_ExtendPlays ?_
  unfold S_law24_ExtendPlays
  refine s_law24_ExtendRuns ?_
  try simp (maxSteps := 2000000) only [fuse_and, fuse_or, fuse_step, fuse_pair, fuse_in, andP_true]
  try simp (maxSteps := 2000000) only [↓RG, RP, true_and, and_true, beq_true, beq_false, Bool.true_beq, Bool.false_beq, BEq.rfl, Int.reduceEq, Int.reduceLT, Int.reduceLE, Nat.reduceEqDiff, decide_true, decide_false, Bool.not_true, Bool.not_false, Bool.and_true, Bool.true_and, Bool.and_false, Bool.false_and, Bool.or_true, Bool.true_or, Bool.or_false, Bool.false_or, Bool.not_not]
  refine G.cond (fun h => hK) (fun h => ?_)
  have hx : xs.length ≤ 30 := by simp at h; omega
  refine G.nilsl tSeenE ?_
  refine G.loop2 (σ := Value × Nat × List TSeen) (fun s => s.1) (fun s => i64 s.2.1) (fun s => sl tSeenE s.1 s.2.2 :: L) (fun s => s.2.1 ≤ xs.length ∧ Cells s.1 [s.1] ∧ s.2.2.length = s.2.1) (fun s => xs.length - s.2.1) (.slice none 0 0, 0, []) rfl rfl rfl ⟨by simp, cells_slice, rfl⟩ ?_
  rintro ⟨v, k, ss⟩ ⟨hk, hv, hs⟩ J hJ
  simp only at hk hv hs hJ ⊢
  try simp (maxSteps := 2000000) only [↓RG, RP, true_and, and_true, beq_true, beq_false, Bool.true_beq, Bool.false_beq, BEq.rfl, Int.reduceEq, Int.reduceLT, Int.reduceLE, Nat.reduceEqDiff, decide_true, decide_false, Bool.not_true, Bool.not_false, Bool.and_true, Bool.true_and, Bool.and_false, Bool.false_and, Bool.or_true, Bool.true_or, Bool.or_false, Bool.false_or, Bool.not_not]
  refine G.cond (fun h => ?_) (fun h => ?_)
  · have hk2 : k < xs.length := by simpa using h
    have e := elem_of hk2
    try simp (maxSteps := 2000000) only [↓RG, RP, true_and, and_true, beq_true, beq_false, Bool.true_beq, Bool.false_beq, BEq.rfl, Int.reduceEq, Int.reduceLT, Int.reduceLE, Nat.reduceEqDiff, decide_true, decide_false, Bool.not_true, Bool.not_false, Bool.and_true, Bool.true_and, Bool.and_false, Bool.false_and, Bool.or_true, Bool.true_or, Bool.or_false, Bool.false_or, Bool.not_not]
    refine G.new fun p => ?_
    try simp (maxSteps := 2000000) only [↓RG, RP, true_and, and_true, beq_true, beq_false, Bool.true_beq, Bool.false_beq, BEq.rfl, Int.reduceEq, Int.reduceLT, Int.reduceLE, Nat.reduceEqDiff, decide_true, decide_false, Bool.not_true, Bool.not_false, Bool.and_true, Bool.true_and, Bool.and_false, Bool.false_and, Bool.or_true, Bool.true_or, Bool.or_false, Bool.false_or, Bool.not_not]
    refine G.join0 (σ := TSeen) (fun q => own p (TSeen.cells q) :: sl tSeenE v ss :: L) (fun _ => True) (fun q _ => ?_) (fun J2 hJ2 => ?_)
    · try simp (maxSteps := 2000000) only [↓RG, RP, true_and, and_true, beq_true, beq_false, Bool.true_beq, Bool.false_beq, BEq.rfl, Int.reduceEq, Int.reduceLT, Int.reduceLE, Nat.reduceEqDiff, decide_true, decide_false, Bool.not_true, Bool.not_false, Bool.and_true, Bool.true_and, Bool.and_false, Bool.false_and, Bool.or_true, Bool.true_or, Bool.or_false, Bool.false_or, Bool.not_not]
      refine G.append1 rfl rfl (by decide) (by omega) (by simp only [maxLen]; omega) fun y hy => ?_
      try simp (maxSteps := 2000000) only [↓RG, RP, true_and, and_true, beq_true, beq_false, Bool.true_beq, Bool.false_beq, BEq.rfl, Int.reduceEq, Int.reduceLT, Int.reduceLE, Nat.reduceEqDiff, decide_true, decide_false, Bool.not_true, Bool.not_false, Bool.and_true, Bool.true_and, Bool.and_false, Bool.false_and, Bool.or_true, Bool.true_or, Bool.or_false, Bool.false_or, Bool.not_not]
      rw [wsucc (by omega)]
      exact (hJ (y, k + 1, ss ++ [q]) ⟨hk2, hy, by simp [hs]⟩ (by simp; omega)).sub
    · cases raw
      · repeat' (first | (with_reducible refine G.joini0 ?_) | (with_reducible refine G.joini1 ?_) | (with_reducible refine G.drew ?_) | (simp (maxSteps := 2000000) only [↓RG, RP, true_and, and_true, beq_true, beq_false, Bool.true_beq, Bool.false_beq, BEq.rfl, Int.reduceEq, Int.reduceLT, Int.reduceLE, Nat.reduceEqDiff, decide_true, decide_false, Bool.not_true, Bool.not_false, Bool.and_true, Bool.true_and, Bool.and_false, Bool.false_and, Bool.or_true, Bool.true_or, Bool.or_false, Bool.false_or, Bool.not_not]))
        refine s_book_Within (by omega) (by omega) (by omega) (by omega) ?_
        repeat' (first | (with_reducible refine G.joini0 ?_) | (with_reducible refine G.joini1 ?_) | (with_reducible refine G.drew ?_) | (simp (maxSteps := 2000000) only [↓RG, RP, true_and, and_true, beq_true, beq_false, Bool.true_beq, Bool.false_beq, BEq.rfl, Int.reduceEq, Int.reduceLT, Int.reduceLE, Nat.reduceEqDiff, decide_true, decide_false, Bool.not_true, Bool.not_false, Bool.and_true, Bool.true_and, Bool.and_false, Bool.false_and, Bool.or_true, Bool.true_or, Bool.or_false, Bool.false_or, Bool.not_not]))
        exact (hJ2 ⟨within xs[k].stripe 0 15, xs[k].version.tmod 2⟩ trivial).sub
      · try simp (maxSteps := 2000000) only [↓RG, RP, true_and, and_true, beq_true, beq_false, Bool.true_beq, Bool.false_beq, BEq.rfl, Int.reduceEq, Int.reduceLT, Int.reduceLE, Nat.reduceEqDiff, decide_true, decide_false, Bool.not_true, Bool.not_false, Bool.and_true, Bool.true_and, Bool.and_false, Bool.false_and, Bool.or_true, Bool.true_or, Bool.or_false, Bool.false_or, Bool.not_not]
        exact (hJ2 xs[k] trivial).sub
  · have hss : ss.length ≤ 30 := by omega
    try simp (maxSteps := 2000000) only [↓RG, RP, true_and, and_true, beq_true, beq_false, Bool.true_beq, Bool.false_beq, BEq.rfl, Int.reduceEq, Int.reduceLT, Int.reduceLE, Nat.reduceEqDiff, decide_true, decide_false, Bool.not_true, Bool.not_false, Bool.and_true, Bool.true_and, Bool.and_false, Bool.false_and, Bool.or_true, Bool.true_or, Bool.or_false, Bool.false_or, Bool.not_not]
    refine G.join1 (σ := Int) (fun m => i64 m) (fun _ => sl tSeenE v ss :: L) (fun _ => True) (fun m2 _ => ?_) (fun J2 hJ2 => ?_)
    · refine s_extend_New (xs := ss) (by omega) fun b => ?_
      refine s_ref23_NewExtend (xs := ss) (by omega) fun c => ?_
      try simp (maxSteps := 2000000) only [↓RG, RP, true_and, and_true, beq_true, beq_false, Bool.true_beq, Bool.false_beq, BEq.rfl, Int.reduceEq, Int.reduceLT, Int.reduceLE, Nat.reduceEqDiff, decide_true, decide_false, Bool.not_true, Bool.not_false, Bool.and_true, Bool.true_and, Bool.and_false, Bool.false_and, Bool.or_true, Bool.true_or, Bool.or_false, Bool.false_or, Bool.not_not]
      refine G.loop1 (σ := Nat × ExtS × ExtS) (fun s => i64 s.1) (fun s => ob RExtR c s.2.2 :: ob ExtR b s.2.1 :: sl tSeenE v ss :: L) (fun s => s.1 ≤ 60 ∧ ExtRel s.2.1 s.2.2 ∧ s.2.1.seen = ss) (fun s => 60 - s.1) (0, extNew m2 sp ss, extNew m2 sp ss) rfl rfl ⟨by simp, ExtRel.new _ _ _, rfl⟩ ?_
      rintro ⟨k, x, y⟩ ⟨hk, hr, hst⟩ J hJ
      simp only at hk hr hst hJ ⊢
      try simp (maxSteps := 2000000) only [↓RG, RP, true_and, and_true, beq_true, beq_false, Bool.true_beq, Bool.false_beq, BEq.rfl, Int.reduceEq, Int.reduceLT, Int.reduceLE, Nat.reduceEqDiff, decide_true, decide_false, Bool.not_true, Bool.not_false, Bool.and_true, Bool.true_and, Bool.and_false, Bool.false_and, Bool.or_true, Bool.true_or, Bool.or_false, Bool.false_or, Bool.not_not]
      refine G.cond (fun h => ?_) (fun h => ?_)
      · have hk60 : k < 60 := by simp at h; omega
        have hfin : y.pat.fin = x.pat.fin := hr.pat.fin
        have hys : y.seen = ss := by rw [hr.seen, hst]
        have hlt : x.pat.fin = 0 → y.loaded = true → y.pos < ss.length := fun h1 h2 => by
          have := hr.ok h1 (by rw [← hr.loaded]; exact h2)
          rw [hr.pos, ← hst]; exact this
        obtain ⟨o, e1, e2, e3⟩ : ∃ o, extNext x = (o, decide (x.pat.fin = 0)) ∧ (x.pat.fin = 0 → rextNext y = o) ∧ (x.pat.fin ≠ 0 → o = zeroOp) := by
          by_cases hf : x.pat.fin = 0
          · exact ⟨rextNext y, by rw [extNext_going hr hf, hf]; rfl, fun _ => rfl, fun h => absurd hf h⟩
          · refine ⟨zeroOp, ?_, fun h => absurd h hf, fun _ => rfl⟩
            unfold extNext
            rw [if_neg hf, decide_eq_false hf]
        refine s_extend_Extend_Next (x := x) hr.ok ?_
        rw [e1]
        try simp (maxSteps := 2000000) only [↓RG, RP, true_and, and_true, beq_true, beq_false, Bool.true_beq, Bool.false_beq, BEq.rfl, Int.reduceEq, Int.reduceLT, Int.reduceLE, Nat.reduceEqDiff, decide_true, decide_false, Bool.not_true, Bool.not_false, Bool.and_true, Bool.true_and, Bool.and_false, Bool.false_and, Bool.or_true, Bool.true_or, Bool.or_false, Bool.false_or, Bool.not_not]
        refine G.new fun p1 => ?_
        try simp (maxSteps := 2000000) only [↓RG, RP, true_and, and_true, beq_true, beq_false, Bool.true_beq, Bool.false_beq, BEq.rfl, Int.reduceEq, Int.reduceLT, Int.reduceLE, Nat.reduceEqDiff, decide_true, decide_false, Bool.not_true, Bool.not_false, Bool.and_true, Bool.true_and, Bool.and_false, Bool.false_and, Bool.or_true, Bool.true_or, Bool.or_false, Bool.false_or, Bool.not_not]
        refine G.new fun p2 => ?_
        rw [G_rot3, RExtR_open]
        intro z hz
        try simp (maxSteps := 2000000) only [↓RG, RP, true_and, and_true, beq_true, beq_false, Bool.true_beq, Bool.false_beq, BEq.rfl, Int.reduceEq, Int.reduceLT, Int.reduceLE, Nat.reduceEqDiff, decide_true, decide_false, Bool.not_true, Bool.not_false, Bool.and_true, Bool.true_and, Bool.and_false, Bool.false_and, Bool.or_true, Bool.true_or, Bool.or_false, Bool.false_or, Bool.not_not, hfin]
        refine G.join0 (σ := Unit) (fun _ => ob RExtR c y :: own p2 (TOp.cells o) :: own p1 (TOp.cells o) :: ob ExtR b x :: sl tSeenE v ss :: L) (fun _ => True) (fun _ _ => ?_) (fun J2 hJ2 => ?_)
        · rw [RExtR_open]
          intro z hz
          try simp (maxSteps := 2000000) only [↓RG, RP, true_and, and_true, beq_true, beq_false, Bool.true_beq, Bool.false_beq, BEq.rfl, Int.reduceEq, Int.reduceLT, Int.reduceLE, Nat.reduceEqDiff, decide_true, decide_false, Bool.not_true, Bool.not_false, Bool.and_true, Bool.true_and, Bool.and_false, Bool.false_and, Bool.or_true, Bool.true_or, Bool.or_false, Bool.false_or, Bool.not_not, hfin]
          refine G.join1 (σ := Unit) (fun _ => u64 (if x.pat.fin = 2 then x.stamp else 0)) (fun _ => own c (y.pat.rcells [z, i64 (rextAt y), u64 y.stamp]) :: sl tSeenE z y.seen :: own p2 (TOp.cells o) :: own p1 (TOp.cells o) :: ob ExtR b x :: sl tSeenE v ss :: L) (fun _ => True) (fun _ _ => ?_) (fun J3 hJ3 => ?_)
          · refine G.drew ?_
            try simp (maxSteps := 2000000) only [↓RG, RP, true_and, and_true, beq_true, beq_false, Bool.true_beq, Bool.false_beq, BEq.rfl, Int.reduceEq, Int.reduceLT, Int.reduceLE, Nat.reduceEqDiff, decide_true, decide_false, Bool.not_true, Bool.not_false, Bool.and_true, Bool.true_and, Bool.and_false, Bool.false_and, Bool.or_true, Bool.true_or, Bool.or_false, Bool.false_or, Bool.not_not, hfin]
            refine s_extend_Extend_End (x := x) ?_
            try simp (maxSteps := 2000000) only [↓RG, RP, true_and, and_true, beq_true, beq_false, Bool.true_beq, Bool.false_beq, BEq.rfl, Int.reduceEq, Int.reduceLT, Int.reduceLE, Nat.reduceEqDiff, decide_true, decide_false, Bool.not_true, Bool.not_false, Bool.and_true, Bool.true_and, Bool.and_false, Bool.false_and, Bool.or_true, Bool.true_or, Bool.or_false, Bool.false_or, Bool.not_not, hfin]
            refine s_extend_Extend_Err (x := x) ?_
            try simp (maxSteps := 2000000) only [↓RG, RP, true_and, and_true, beq_true, beq_false, Bool.true_beq, Bool.false_beq, BEq.rfl, Int.reduceEq, Int.reduceLT, Int.reduceLE, Nat.reduceEqDiff, decide_true, decide_false, Bool.not_true, Bool.not_false, Bool.and_true, Bool.true_and, Bool.and_false, Bool.false_and, Bool.or_true, Bool.true_or, Bool.or_false, Bool.false_or, Bool.not_not, hr.pat.err]
            refine s_extend_Extend_By (x := x) ?_
            try simp (maxSteps := 2000000) only [↓RG, RP, true_and, and_true, beq_true, beq_false, Bool.true_beq, Bool.false_beq, BEq.rfl, Int.reduceEq, Int.reduceLT, Int.reduceLE, Nat.reduceEqDiff, decide_true, decide_false, Bool.not_true, Bool.not_false, Bool.and_true, Bool.true_and, Bool.and_false, Bool.false_and, Bool.or_true, Bool.true_or, Bool.or_false, Bool.false_or, Bool.not_not, hr.pat.by_]
            refine s_extend_Extend_Stamp (x := x) ?_
            try simp (maxSteps := 2000000) only [↓RG, RP, true_and, and_true, beq_true, beq_false, Bool.true_beq, Bool.false_beq, BEq.rfl, Int.reduceEq, Int.reduceLT, Int.reduceLE, Nat.reduceEqDiff, decide_true, decide_false, Bool.not_true, Bool.not_false, Bool.and_true, Bool.true_and, Bool.and_false, Bool.false_and, Bool.or_true, Bool.true_or, Bool.or_false, Bool.false_or, Bool.not_not]
            refine G.joini0 ?_
            refine G.cond (fun h3 => ?_) (fun h3 => ?_)
            · have hk2 : k < qs.length := by simpa using h3
              have e := elem_of hk2
              try simp (maxSteps := 2000000) only [↓RG, RP, true_and, and_true, beq_true, beq_false, Bool.true_beq, Bool.false_beq, BEq.rfl, Int.reduceEq, Int.reduceLT, Int.reduceLE, Nat.reduceEqDiff, decide_true, decide_false, Bool.not_true, Bool.not_false, Bool.and_true, Bool.true_and, Bool.and_false, Bool.false_and, Bool.or_true, Bool.true_or, Bool.or_false, Bool.false_or, Bool.not_not]
              refine G.new fun p4 => ?_
              try simp (maxSteps := 2000000) only [↓RG, RP, true_and, and_true, beq_true, beq_false, Bool.true_beq, Bool.false_beq, BEq.rfl, Int.reduceEq, Int.reduceLT, Int.reduceLE, Nat.reduceEqDiff, decide_true, decide_false, Bool.not_true, Bool.not_false, Bool.and_true, Bool.true_and, Bool.and_false, Bool.false_and, Bool.or_true, Bool.true_or, Bool.or_false, Bool.false_or, Bool.not_not]
              refine G.join0 (σ := TAns) (fun q => own p4 (TAns.cells q) :: own c (y.pat.rcells [z, i64 (rextAt y), u64 y.stamp]) :: sl tSeenE z y.seen :: own p2 (TOp.cells o) :: own p1 (TOp.cells o) :: ob ExtR b x :: sl tSeenE v ss :: L) (fun _ => True) (fun q _ => ?_) (fun J4 hJ4 => ?_)
              · try simp (maxSteps := 2000000) only [↓RG, RP, true_and, and_true, beq_true, beq_false, Bool.true_beq, Bool.false_beq, BEq.rfl, Int.reduceEq, Int.reduceLT, Int.reduceLE, Nat.reduceEqDiff, decide_true, decide_false, Bool.not_true, Bool.not_false, Bool.and_true, Bool.true_and, Bool.and_false, Bool.false_and, Bool.or_true, Bool.true_or, Bool.or_false, Bool.false_or, Bool.not_not]
                refine s_extend_Extend_Tell (x := x) (a := q) hr.ok (by rw [hst]; omega) ?_
                try simp (maxSteps := 2000000) only [↓RG, RP, true_and, and_true, beq_true, beq_false, Bool.true_beq, Bool.false_beq, BEq.rfl, Int.reduceEq, Int.reduceLT, Int.reduceLE, Nat.reduceEqDiff, decide_true, decide_false, Bool.not_true, Bool.not_false, Bool.and_true, Bool.true_and, Bool.and_false, Bool.false_and, Bool.or_true, Bool.true_or, Bool.or_false, Bool.false_or, Bool.not_not]
                refine RExtR_close (v := z) c y (own p4 (TAns.cells q) :: own p2 (TOp.cells o) :: own p1 (TOp.cells o) :: ob ExtR b (extTell x q) :: sl tSeenE v ss :: L) hz ?_
                refine s_ref23_Extend_Tell (x := y) (a := q) (fun h1 h2 => by rw [hys]; exact hlt (by rw [← hfin]; exact h1) h2) (by rw [hys]; omega) ?_
                try simp (maxSteps := 2000000) only [↓RG, RP, true_and, and_true, beq_true, beq_false, Bool.true_beq, Bool.false_beq, BEq.rfl, Int.reduceEq, Int.reduceLT, Int.reduceLE, Nat.reduceEqDiff, decide_true, decide_false, Bool.not_true, Bool.not_false, Bool.and_true, Bool.true_and, Bool.and_false, Bool.false_and, Bool.or_true, Bool.true_or, Bool.or_false, Bool.false_or, Bool.not_not]
                rw [wsucc (by omega)]
                exact (hJ (k + 1, extTell x q, rextTell y q) ⟨by omega, hr.tell q, by rw [extTell_seen]; exact hst⟩ (by simp; omega)).sub
              · refine G.cond (fun h4 => ?_) (fun h4 => ?_)
                · try simp (maxSteps := 2000000) only [↓RG, RP, true_and, and_true, beq_true, beq_false, Bool.true_beq, Bool.false_beq, BEq.rfl, Int.reduceEq, Int.reduceLT, Int.reduceLE, Nat.reduceEqDiff, decide_true, decide_false, Bool.not_true, Bool.not_false, Bool.and_true, Bool.true_and, Bool.and_false, Bool.false_and, Bool.or_true, Bool.true_or, Bool.or_false, Bool.false_or, Bool.not_not, hfin]
                  refine G.all (decide (0 ≤ rextAt y)) (fun _ K hK => by try simp (maxSteps := 2000000) only [↓RG, RP, true_and, and_true, beq_true, beq_false, Bool.true_beq, Bool.false_beq, BEq.rfl, Int.reduceEq, Int.reduceLT, Int.reduceLE, Nat.reduceEqDiff, decide_true, decide_false, Bool.not_true, Bool.not_false, Bool.and_true, Bool.true_and, Bool.and_false, Bool.false_and, Bool.or_true, Bool.true_or, Bool.or_false, Bool.false_or, Bool.not_not]; exact hK) ?_
                  refine G.all (decide (0 < qs[k].word.tmod 4)) (fun _ K hK => by try simp (maxSteps := 2000000) only [↓RG, RP, true_and, and_true, beq_true, beq_false, Bool.true_beq, Bool.false_beq, BEq.rfl, Int.reduceEq, Int.reduceLT, Int.reduceLE, Nat.reduceEqDiff, decide_true, decide_false, Bool.not_true, Bool.not_false, Bool.and_true, Bool.true_and, Bool.and_false, Bool.false_and, Bool.or_true, Bool.true_or, Bool.or_false, Bool.false_or, Bool.not_not]; exact hK) ?_
                  refine G.join0 (σ := TLock) (fun q => own p4 (TAns.cells ⟨qs[k].word, q, qs[k].done, 0⟩) :: own c (y.pat.rcells [z, i64 (rextAt y), u64 y.stamp]) :: sl tSeenE z y.seen :: own p2 (TOp.cells o) :: own p1 (TOp.cells o) :: ob ExtR b x :: sl tSeenE v ss :: L) (fun _ => True) (fun q _ => ?_) (fun J5 hJ5 => ?_)
                  · try simp (maxSteps := 2000000) only [↓RG, RP, true_and, and_true, beq_true, beq_false, Bool.true_beq, Bool.false_beq, BEq.rfl, Int.reduceEq, Int.reduceLT, Int.reduceLE, Nat.reduceEqDiff, decide_true, decide_false, Bool.not_true, Bool.not_false, Bool.and_true, Bool.true_and, Bool.and_false, Bool.false_and, Bool.or_true, Bool.true_or, Bool.or_false, Bool.false_or, Bool.not_not]
                    refine s_book_Within (by omega) (by omega) (by omega) (by omega) ?_
                    try simp (maxSteps := 2000000) only [↓RG, RP, true_and, and_true, beq_true, beq_false, Bool.true_beq, Bool.false_beq, BEq.rfl, Int.reduceEq, Int.reduceLT, Int.reduceLE, Nat.reduceEqDiff, decide_true, decide_false, Bool.not_true, Bool.not_false, Bool.and_true, Bool.true_and, Bool.and_false, Bool.false_and, Bool.or_true, Bool.true_or, Bool.or_false, Bool.false_or, Bool.not_not, Nat.reduceAdd]
                    exact (hJ4 ⟨qs[k].word, ⟨q.version, q.held, within q.owner 0 3⟩, qs[k].done, 0⟩ trivial).sub
                  · refine G.cond (fun h5 => ?_) (fun h5 => ?_)
                    · have h6 : x.pat.fin = 0 ∧ 0 ≤ rextAt y := by
                        simp only [Bool.and_eq_true, decide_eq_true_eq] at h5
                        exact ⟨h5.1.1, h5.1.2⟩
                      have hl : y.loaded = true := by
                        cases hl : y.loaded
                        · have := h6.2; simp [rextAt, hl] at this
                        · rfl
                      have hp := hlt h6.1 hl
                      have ix : IxI (rextAt y) y.pos := ⟨by simp only [rextAt, hl, if_true]⟩
                      have e' := elem_of hp
                      try simp (maxSteps := 2000000) only [↓RG, RP, true_and, and_true, beq_true, beq_false, Bool.true_beq, Bool.false_beq, BEq.rfl, Int.reduceEq, Int.reduceLT, Int.reduceLE, Nat.reduceEqDiff, decide_true, decide_false, Bool.not_true, Bool.not_false, Bool.and_true, Bool.true_and, Bool.and_false, Bool.false_and, Bool.or_true, Bool.true_or, Bool.or_false, Bool.false_or, Bool.not_not]
                      exact (hJ5 ⟨ss[y.pos].version, false, 0⟩ trivial).sub
                    · exact (hJ5 ⟨qs[k].lock.version.tmod 2, qs[k].lock.held, qs[k].lock.owner⟩ trivial).sub
                · exact (hJ4 qs[k] trivial).sub
            · rw [wsucc (by omega)]
              refine RExtR_close (v := z) c y (own p2 (TOp.cells o) :: own p1 (TOp.cells o) :: ob ExtR b x :: sl tSeenE v ss :: L) hz ?_
              exact (hJ (k + 1, x, y) ⟨by omega, hr, hst⟩ (by simp; omega)).sub
          · by_cases h2 : x.pat.fin = 2
            · have hj := hJ3 () trivial
              simp only [if_pos h2] at hj
              repeat' (first | (with_reducible refine G.joini0 ?_) | (with_reducible refine G.joini1 ?_) | (with_reducible refine G.drew ?_) | (simp (maxSteps := 2000000) only [↓RG, RP, true_and, and_true, beq_true, beq_false, Bool.true_beq, Bool.false_beq, BEq.rfl, Int.reduceEq, Int.reduceLT, Int.reduceLE, Nat.reduceEqDiff, decide_true, decide_false, Bool.not_true, Bool.not_false, Bool.and_true, Bool.true_and, Bool.and_false, Bool.false_and, Bool.or_true, Bool.true_or, Bool.or_false, Bool.false_or, Bool.not_not, hfin, h2]))
              rw [← hr.stamp] at hj
              exact hj.sub
            · have hj := hJ3 () trivial
              simp only [if_neg h2] at hj
              repeat' (first | (with_reducible refine G.joini0 ?_) | (with_reducible refine G.joini1 ?_) | (with_reducible refine G.drew ?_) | (simp (maxSteps := 2000000) only [↓RG, RP, true_and, and_true, beq_true, beq_false, Bool.true_beq, Bool.false_beq, BEq.rfl, Int.reduceEq, Int.reduceLT, Int.reduceLE, Nat.reduceEqDiff, decide_true, decide_false, Bool.not_true, Bool.not_false, Bool.and_true, Bool.true_and, Bool.and_false, Bool.false_and, Bool.or_true, Bool.true_or, Bool.or_false, Bool.false_or, Bool.not_not, hfin, h2]))
              exact hj.sub
        · by_cases hf : x.pat.fin = 0
          · try simp (maxSteps := 2000000) only [↓RG, RP, true_and, and_true, beq_true, beq_false, Bool.true_beq, Bool.false_beq, BEq.rfl, Int.reduceEq, Int.reduceLT, Int.reduceLE, Nat.reduceEqDiff, decide_true, decide_false, Bool.not_true, Bool.not_false, Bool.and_true, Bool.true_and, Bool.and_false, Bool.false_and, Bool.or_true, Bool.true_or, Bool.or_false, Bool.false_or, Bool.not_not, hf]
            refine RExtR_close (v := z) c y (own p2 (TOp.cells ⟨0, 0, 0, 0, ⟨0, false, 0⟩, ⟨0, false, 0⟩⟩) :: own p1 (TOp.cells o) :: ob ExtR b x :: sl tSeenE v ss :: L) hz ?_
            refine s_ref23_Extend_Next (x := y) (fun h => by rw [hys]; exact hlt hf h) ?_
            rw [e2 hf]
            try simp (maxSteps := 2000000) only [↓RG, RP, true_and, and_true, beq_true, beq_false, Bool.true_beq, Bool.false_beq, BEq.rfl, Int.reduceEq, Int.reduceLT, Int.reduceLE, Nat.reduceEqDiff, decide_true, decide_false, Bool.not_true, Bool.not_false, Bool.and_true, Bool.true_and, Bool.and_false, Bool.false_and, Bool.or_true, Bool.true_or, Bool.or_false, Bool.false_or, Bool.not_not]
            exact (hJ2 () trivial).sub
          · have hz2 := e3 hf
            subst hz2
            try simp (maxSteps := 2000000) only [↓RG, RP, true_and, and_true, beq_true, beq_false, Bool.true_beq, Bool.false_beq, BEq.rfl, Int.reduceEq, Int.reduceLT, Int.reduceLE, Nat.reduceEqDiff, decide_true, decide_false, Bool.not_true, Bool.not_false, Bool.and_true, Bool.true_and, Bool.and_false, Bool.false_and, Bool.or_true, Bool.true_or, Bool.or_false, Bool.false_or, Bool.not_not, hf]
            refine RExtR_close (v := z) c y (own p2 (TOp.cells ⟨0, 0, 0, 0, ⟨0, false, 0⟩, ⟨0, false, 0⟩⟩) :: own p1 (TOp.cells zeroOp) :: ob ExtR b x :: sl tSeenE v ss :: L) hz ?_
            have hj := hJ2 () trivial
            simp only [zeroOp, zeroLock] at hj ⊢
            exact hj.sub
      · exact hK.sub
    · cases raw
      · try simp (maxSteps := 2000000) only [↓RG, RP, true_and, and_true, beq_true, beq_false, Bool.true_beq, Bool.false_beq, BEq.rfl, Int.reduceEq, Int.reduceLT, Int.reduceLE, Nat.reduceEqDiff, decide_true, decide_false, Bool.not_true, Bool.not_false, Bool.and_true, Bool.true_and, Bool.and_false, Bool.false_and, Bool.or_true, Bool.true_or, Bool.or_false, Bool.false_or, Bool.not_not]
        refine s_book_Within (by omega) (by omega) (by omega) (by omega) ?_
        try simp (maxSteps := 2000000) only [↓RG, RP, true_and, and_true, beq_true, beq_false, Bool.true_beq, Bool.false_beq, BEq.rfl, Int.reduceEq, Int.reduceLT, Int.reduceLE, Nat.reduceEqDiff, decide_true, decide_false, Bool.not_true, Bool.not_false, Bool.and_true, Bool.true_and, Bool.and_false, Bool.false_and, Bool.or_true, Bool.true_or, Bool.or_false, Bool.false_or, Bool.not_not]
        exact hJ2 (within me 0 3) trivial
      · try simp (maxSteps := 2000000) only [↓RG, RP, true_and, and_true, beq_true, beq_false, Bool.true_beq, Bool.false_beq, BEq.rfl, Int.reduceEq, Int.reduceLT, Int.reduceLE, Nat.reduceEqDiff, decide_true, decide_false, Bool.not_true, Bool.not_false, Bool.and_true, Bool.true_and, Bool.and_false, Bool.false_and, Bool.or_true, Bool.true_or, Bool.or_false, Bool.false_or, Bool.not_not]
        exact hJ2 me trivial

end
end Go.Proofs.Ytaghnmllaghcbaa.S
