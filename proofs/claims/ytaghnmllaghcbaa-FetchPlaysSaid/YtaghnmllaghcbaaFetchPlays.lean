/-
  CHAPTER 23: any place, any stamp, any spins, any answers.
-/
import Derived.Test.YtaghnmllaghcbaaFetchRel
import Derived.Test.YtaghnmllaghcbaaFetchLaw
namespace Go.Proofs.Ytaghnmllaghcbaa.S
open Go Go.Proofs
set_option linter.unusedVariables false
set_option linter.unusedSimpArgs false

section
variable {w0 : World} {L M : List Asn} {K : KV} {F : World → Prop} {C : Asn → List Asn} {b : Nat} {f g : FetchS}

theorem s_law23_near {a : TAns} {raw : Bool} (hK : ∀ y : TAns, G w0 L (K (.agg (TAns.cells y).toArray))) : G w0 L (CP Try.prog Fn.law23_near [.agg (TAns.cells a).toArray, .bool raw] K) := by
  refine C_law23_near ?_
  unfold S_law23_near
  try simp (maxSteps := 2000000) only [fuse_and, fuse_or, fuse_step, fuse_pair, fuse_in, andP_true]
  refine G.box fun p => ?_
  refine G.new fun q => ?_
  try simp (maxSteps := 2000000) only [↓RG, RP, true_and, and_true, beq_true, beq_false, Bool.true_beq, Bool.false_beq, BEq.rfl, Int.reduceEq, Int.reduceLT, Int.reduceLE, Nat.reduceEqDiff, decide_true, decide_false, Bool.not_true, Bool.not_false, Bool.and_true, Bool.true_and, Bool.and_false, Bool.false_and, Bool.or_true, Bool.true_or, Bool.or_false, Bool.false_or, Bool.not_not, Nat.reduceAdd]
  cases raw
  · try simp (maxSteps := 2000000) only [↓RG, RP, true_and, and_true, beq_true, beq_false, Bool.true_beq, Bool.false_beq, BEq.rfl, Int.reduceEq, Int.reduceLT, Int.reduceLE, Nat.reduceEqDiff, decide_true, decide_false, Bool.not_true, Bool.not_false, Bool.and_true, Bool.true_and, Bool.and_false, Bool.false_and, Bool.or_true, Bool.true_or, Bool.or_false, Bool.false_or, Bool.not_not, Nat.reduceAdd]
    refine s_book_Within (by omega) (by omega) (by omega) (by omega) ?_
    try simp (maxSteps := 2000000) only [↓RG, RP, true_and, and_true, beq_true, beq_false, Bool.true_beq, Bool.false_beq, BEq.rfl, Int.reduceEq, Int.reduceLT, Int.reduceLE, Nat.reduceEqDiff, decide_true, decide_false, Bool.not_true, Bool.not_false, Bool.and_true, Bool.true_and, Bool.and_false, Bool.false_and, Bool.or_true, Bool.true_or, Bool.or_false, Bool.false_or, Bool.not_not, Nat.reduceAdd]
    refine G.any (decide (a.word.tmod 4 > 0)) (fun _ K hK => by try simp (maxSteps := 2000000) only [↓RG, RP, true_and, and_true, beq_true, beq_false, Bool.true_beq, Bool.false_beq, BEq.rfl, Int.reduceEq, Int.reduceLT, Int.reduceLE, Nat.reduceEqDiff, decide_true, decide_false, Bool.not_true, Bool.not_false, Bool.and_true, Bool.true_and, Bool.and_false, Bool.false_and, Bool.or_true, Bool.true_or, Bool.or_false, Bool.false_or, Bool.not_not]; exact hK) ?_
    refine G.joini0 ?_
    refine G.cond (fun h => ?_) (fun h => ?_)
    · try simp (maxSteps := 2000000) only [↓RG, RP, true_and, and_true, beq_true, beq_false, Bool.true_beq, Bool.false_beq, BEq.rfl, Int.reduceEq, Int.reduceLT, Int.reduceLE, Nat.reduceEqDiff, decide_true, decide_false, Bool.not_true, Bool.not_false, Bool.and_true, Bool.true_and, Bool.and_false, Bool.false_and, Bool.or_true, Bool.true_or, Bool.or_false, Bool.false_or, Bool.not_not]
      exact (hK ⟨a.word, ⟨a.lock.version.tmod 7, false, 0⟩, a.done, 0⟩).sub
    · try simp (maxSteps := 2000000) only [↓RG, RP, true_and, and_true, beq_true, beq_false, Bool.true_beq, Bool.false_beq, BEq.rfl, Int.reduceEq, Int.reduceLT, Int.reduceLE, Nat.reduceEqDiff, decide_true, decide_false, Bool.not_true, Bool.not_false, Bool.and_true, Bool.true_and, Bool.and_false, Bool.false_and, Bool.or_true, Bool.true_or, Bool.or_false, Bool.false_or, Bool.not_not]
      exact (hK ⟨a.word, ⟨a.lock.version.tmod 7, a.lock.held, within a.lock.owner 0 3⟩, a.done, 0⟩).sub
  · try simp (maxSteps := 2000000) only [↓RG, RP, true_and, and_true, beq_true, beq_false, Bool.true_beq, Bool.false_beq, BEq.rfl, Int.reduceEq, Int.reduceLT, Int.reduceLE, Nat.reduceEqDiff, decide_true, decide_false, Bool.not_true, Bool.not_false, Bool.and_true, Bool.true_and, Bool.and_false, Bool.false_and, Bool.or_true, Bool.true_or, Bool.or_false, Bool.false_or, Bool.not_not]
    exact (hK a).sub

theorem s_fetch_Fetch_Seen' [i : SelOb L FetchR b f C] (hK : G w0 L (K (.agg #[i64 (if f.pat.fin = 2 then f.stripe else 0), u64 (if f.pat.fin = 2 then f.lock.version else 0)]))) : G w0 L (CP Try.prog Fn.fetch_Fetch_Seen [ptr b 0] K) := by
  refine s_fetch_Fetch_Seen (f := f) ?_
  by_cases h : f.pat.fin = 2
  · simp only [if_pos h] at hK ⊢; exact hK
  · simp only [if_neg h] at hK ⊢; exact hK

theorem fetchTell_stripe (f : FetchS) (a : TAns) : (fetchTell f a).stripe = f.stripe := by
  unfold fetchTell fetchFound
  repeat' split
  all_goals rfl

theorem fetchNext_going (h : FetchRel f g) (hf : f.pat.fin = 0) : fetchNext f = (rfetchNext g, true) := by
  unfold fetchNext rfetchNext
  rw [if_pos hf, h.state, h.place, h.stripe]
  split <;> rfl

set_option maxRecDepth 20000 in
set_option maxHeartbeats 4000000 in
theorem s_law23_FetchPlays {me pl st sp sm : Int} {l : Value} {qs : List TAns} {raw : Bool} [a1 : Arg w0 l tAnsE qs] (hK : G w0 L (K (.bool true))) :
    G w0 L (CP Try.prog Fn.law23_FetchPlays [i64 me, i64 pl, i64 st, i64 sp, u64 sm, l, .bool raw] K) := by
  refine C_law23_FetchPlays ?_
  unfold S_law23_FetchPlays
  refine s_law23_FetchRuns ?_
  try simp (maxSteps := 2000000) only [fuse_and, fuse_or, fuse_step, fuse_pair, fuse_in, andP_true]
  try simp (maxSteps := 2000000) only [↓RG, RP, true_and, and_true, beq_true, beq_false, Bool.true_beq, Bool.false_beq, BEq.rfl, Int.reduceEq, Int.reduceLT, Int.reduceLE, Nat.reduceEqDiff, decide_true, decide_false, Bool.not_true, Bool.not_false, Bool.and_true, Bool.true_and, Bool.and_false, Bool.false_and, Bool.or_true, Bool.true_or, Bool.or_false, Bool.false_or, Bool.not_not]
  refine G.join2 (σ := Int × Int) (fun s => i64 s.1) (fun s => u64 s.2) (fun s => L) (fun s => True) (fun s _ => ?_) (fun J hJ => ?_)
  · obtain ⟨m2, t2⟩ := s
    refine s_fetch_New fun b => ?_
    refine s_ref23_NewFetch fun c => ?_
    try simp (maxSteps := 2000000) only [↓RG, RP, true_and, and_true, beq_true, beq_false, Bool.true_beq, Bool.false_beq, BEq.rfl, Int.reduceEq, Int.reduceLT, Int.reduceLE, Nat.reduceEqDiff, decide_true, decide_false, Bool.not_true, Bool.not_false, Bool.and_true, Bool.true_and, Bool.and_false, Bool.false_and, Bool.or_true, Bool.true_or, Bool.or_false, Bool.false_or, Bool.not_not]
    refine G.loop1 (σ := Nat × FetchS × FetchS) (fun s => i64 s.1) (fun s => ob RFetchR c s.2.2 :: ob FetchR b s.2.1 :: L) (fun s => s.1 ≤ 40 ∧ FetchRel s.2.1 s.2.2 ∧ s.2.1.stripe = st) (fun s => 40 - s.1) (0, fetchNew m2 pl st sp t2, fetchNew m2 pl st sp t2) rfl rfl ⟨by simp, FetchRel.new _ _ _ _ _, rfl⟩ ?_
    rintro ⟨k, f, g⟩ ⟨hk, hr, hst⟩ J hJ
    simp only at hk hr hst hJ ⊢
    try simp (maxSteps := 2000000) only [↓RG, RP, true_and, and_true, beq_true, beq_false, Bool.true_beq, Bool.false_beq, BEq.rfl, Int.reduceEq, Int.reduceLT, Int.reduceLE, Nat.reduceEqDiff, decide_true, decide_false, Bool.not_true, Bool.not_false, Bool.and_true, Bool.true_and, Bool.and_false, Bool.false_and, Bool.or_true, Bool.true_or, Bool.or_false, Bool.false_or, Bool.not_not]
    refine G.cond (fun h => ?_) (fun h => ?_)
    · have hfin : g.pat.fin = f.pat.fin := hr.pat.fin
      obtain ⟨o, e1, e2, e3⟩ : ∃ o, fetchNext f = (o, decide (f.pat.fin = 0)) ∧ (f.pat.fin = 0 → rfetchNext g = o) ∧ (f.pat.fin ≠ 0 → o = zeroOp) := by
        by_cases hf : f.pat.fin = 0
        · exact ⟨rfetchNext g, by rw [fetchNext_going hr hf, hf]; rfl, fun _ => rfl, fun h => absurd hf h⟩
        · refine ⟨zeroOp, ?_, fun h => absurd h hf, fun _ => rfl⟩
          unfold fetchNext
          rw [if_neg hf, decide_eq_false hf]
      refine s_fetch_Fetch_Next (f := f) ?_
      rw [e1]
      try simp (maxSteps := 2000000) only [↓RG, RP, true_and, and_true, beq_true, beq_false, Bool.true_beq, Bool.false_beq, BEq.rfl, Int.reduceEq, Int.reduceLT, Int.reduceLE, Nat.reduceEqDiff, decide_true, decide_false, Bool.not_true, Bool.not_false, Bool.and_true, Bool.true_and, Bool.and_false, Bool.false_and, Bool.or_true, Bool.true_or, Bool.or_false, Bool.false_or, Bool.not_not]
      refine G.new fun p1 => ?_
      try simp (maxSteps := 2000000) only [↓RG, RP, true_and, and_true, beq_true, beq_false, Bool.true_beq, Bool.false_beq, BEq.rfl, Int.reduceEq, Int.reduceLT, Int.reduceLE, Nat.reduceEqDiff, decide_true, decide_false, Bool.not_true, Bool.not_false, Bool.and_true, Bool.true_and, Bool.and_false, Bool.false_and, Bool.or_true, Bool.true_or, Bool.or_false, Bool.false_or, Bool.not_not]
      refine G.new fun p2 => ?_
      rw [G_rot3, RFetchR_open]
      try simp (maxSteps := 2000000) only [↓RG, RP, true_and, and_true, beq_true, beq_false, Bool.true_beq, Bool.false_beq, BEq.rfl, Int.reduceEq, Int.reduceLT, Int.reduceLE, Nat.reduceEqDiff, decide_true, decide_false, Bool.not_true, Bool.not_false, Bool.and_true, Bool.true_and, Bool.and_false, Bool.false_and, Bool.or_true, Bool.true_or, Bool.or_false, Bool.false_or, Bool.not_not, hfin]
      refine G.join0 (σ := Unit) (fun _ => own p2 (TOp.cells o) :: own p1 (TOp.cells o) :: ob RFetchR c g :: ob FetchR b f :: L) (fun _ => True) (fun _ _ => ?_) (fun J2 hJ2 => ?_)
      · refine G.new fun p3 => ?_
        rw [G_rot4, RFetchR_open]
        try simp (maxSteps := 2000000) only [↓RG, RP, true_and, and_true, beq_true, beq_false, Bool.true_beq, Bool.false_beq, BEq.rfl, Int.reduceEq, Int.reduceLT, Int.reduceLE, Nat.reduceEqDiff, decide_true, decide_false, Bool.not_true, Bool.not_false, Bool.and_true, Bool.true_and, Bool.and_false, Bool.false_and, Bool.or_true, Bool.true_or, Bool.or_false, Bool.false_or, Bool.not_not, hfin]
        have hS : G w0 (own p3 [i64 0, u64 0] :: own p2 (TOp.cells o) :: own p1 (TOp.cells o) :: ob RFetchR c g :: ob FetchR b f :: L) (K (.bool true)) := hK.sub
        refine G.join1 (σ := Unit) (fun _ => u64 (if f.pat.fin = 2 then f.word else 0)) (fun _ => own p3 [i64 (if f.pat.fin = 2 then f.stripe else 0), u64 (if f.pat.fin = 2 then f.lock.version else 0)] :: own c (g.pat.rcells g.rest) :: own p2 (TOp.cells o) :: own p1 (TOp.cells o) :: ob FetchR b f :: L) (fun _ => True) (fun _ _ => ?_) (fun J3 hJ3 => ?_)
        · refine G.drew ?_
          try simp (maxSteps := 2000000) only [↓RG, RP, true_and, and_true, beq_true, beq_false, Bool.true_beq, Bool.false_beq, BEq.rfl, Int.reduceEq, Int.reduceLT, Int.reduceLE, Nat.reduceEqDiff, decide_true, decide_false, Bool.not_true, Bool.not_false, Bool.and_true, Bool.true_and, Bool.and_false, Bool.false_and, Bool.or_true, Bool.true_or, Bool.or_false, Bool.false_or, Bool.not_not, hfin]
          refine s_fetch_Fetch_End (f := f) ?_
          try simp (maxSteps := 2000000) only [↓RG, RP, true_and, and_true, beq_true, beq_false, Bool.true_beq, Bool.false_beq, BEq.rfl, Int.reduceEq, Int.reduceLT, Int.reduceLE, Nat.reduceEqDiff, decide_true, decide_false, Bool.not_true, Bool.not_false, Bool.and_true, Bool.true_and, Bool.and_false, Bool.false_and, Bool.or_true, Bool.true_or, Bool.or_false, Bool.false_or, Bool.not_not, hfin]
          refine s_fetch_Fetch_Err (f := f) ?_
          try simp (maxSteps := 2000000) only [↓RG, RP, true_and, and_true, beq_true, beq_false, Bool.true_beq, Bool.false_beq, BEq.rfl, Int.reduceEq, Int.reduceLT, Int.reduceLE, Nat.reduceEqDiff, decide_true, decide_false, Bool.not_true, Bool.not_false, Bool.and_true, Bool.true_and, Bool.and_false, Bool.false_and, Bool.or_true, Bool.true_or, Bool.or_false, Bool.false_or, Bool.not_not, hr.pat.err]
          refine s_fetch_Fetch_By (f := f) ?_
          try simp (maxSteps := 2000000) only [↓RG, RP, true_and, and_true, beq_true, beq_false, Bool.true_beq, Bool.false_beq, BEq.rfl, Int.reduceEq, Int.reduceLT, Int.reduceLE, Nat.reduceEqDiff, decide_true, decide_false, Bool.not_true, Bool.not_false, Bool.and_true, Bool.true_and, Bool.and_false, Bool.false_and, Bool.or_true, Bool.true_or, Bool.or_false, Bool.false_or, Bool.not_not, hr.pat.by_]
          refine s_fetch_Fetch_Word (f := f) ?_
          try simp (maxSteps := 2000000) only [↓RG, RP, true_and, and_true, beq_true, beq_false, Bool.true_beq, Bool.false_beq, BEq.rfl, Int.reduceEq, Int.reduceLT, Int.reduceLE, Nat.reduceEqDiff, decide_true, decide_false, Bool.not_true, Bool.not_false, Bool.and_true, Bool.true_and, Bool.and_false, Bool.false_and, Bool.or_true, Bool.true_or, Bool.or_false, Bool.false_or, Bool.not_not]
          refine s_fetch_Fetch_Seen' (f := f) ?_
          try simp (maxSteps := 2000000) only [↓RG, RP, true_and, and_true, beq_true, beq_false, Bool.true_beq, Bool.false_beq, BEq.rfl, Int.reduceEq, Int.reduceLT, Int.reduceLE, Nat.reduceEqDiff, decide_true, decide_false, Bool.not_true, Bool.not_false, Bool.and_true, Bool.true_and, Bool.and_false, Bool.false_and, Bool.or_true, Bool.true_or, Bool.or_false, Bool.false_or, Bool.not_not]
          have hk40 : k < 40 := by simp at h; omega
          refine G.joini0 ?_
          refine G.cond (fun h3 => ?_) (fun h3 => ?_)
          · have hk2 : k < qs.length := by simpa using h3
            have e := elem_of hk2
            try simp (maxSteps := 2000000) only [↓RG, RP, true_and, and_true, beq_true, beq_false, Bool.true_beq, Bool.false_beq, BEq.rfl, Int.reduceEq, Int.reduceLT, Int.reduceLE, Nat.reduceEqDiff, decide_true, decide_false, Bool.not_true, Bool.not_false, Bool.and_true, Bool.true_and, Bool.and_false, Bool.false_and, Bool.or_true, Bool.true_or, Bool.or_false, Bool.false_or, Bool.not_not]
            refine s_law23_near fun y => ?_
            refine G.new fun p4 => ?_
            try simp (maxSteps := 2000000) only [↓RG, RP, true_and, and_true, beq_true, beq_false, Bool.true_beq, Bool.false_beq, BEq.rfl, Int.reduceEq, Int.reduceLT, Int.reduceLE, Nat.reduceEqDiff, decide_true, decide_false, Bool.not_true, Bool.not_false, Bool.and_true, Bool.true_and, Bool.and_false, Bool.false_and, Bool.or_true, Bool.true_or, Bool.or_false, Bool.false_or, Bool.not_not]
            refine G.all qs[k].done (fun _ K hK => by try simp (maxSteps := 2000000) only [↓RG, RP, true_and, and_true, beq_true, beq_false, Bool.true_beq, Bool.false_beq, BEq.rfl, Int.reduceEq, Int.reduceLT, Int.reduceLE, Nat.reduceEqDiff, decide_true, decide_false, Bool.not_true, Bool.not_false, Bool.and_true, Bool.true_and, Bool.and_false, Bool.false_and, Bool.or_true, Bool.true_or, Bool.or_false, Bool.false_or, Bool.not_not]; exact hK) ?_
            try simp (maxSteps := 2000000) only [↓RG, RP, true_and, and_true, beq_true, beq_false, Bool.true_beq, Bool.false_beq, BEq.rfl, Int.reduceEq, Int.reduceLT, Int.reduceLE, Nat.reduceEqDiff, decide_true, decide_false, Bool.not_true, Bool.not_false, Bool.and_true, Bool.true_and, Bool.and_false, Bool.false_and, Bool.or_true, Bool.true_or, Bool.or_false, Bool.false_or, Bool.not_not]
            refine G.join0 (σ := TAns) (fun y => own p4 (TAns.cells y) :: own p3 [i64 (if f.pat.fin = 2 then f.stripe else 0), u64 (if f.pat.fin = 2 then f.lock.version else 0)] :: own c (g.pat.rcells g.rest) :: own p2 (TOp.cells o) :: own p1 (TOp.cells o) :: ob FetchR b f :: L) (fun _ => True) (fun y _ => ?_) (fun J4 hJ4 => ?_)
            · try simp (maxSteps := 2000000) only [↓RG, RP, true_and, and_true, beq_true, beq_false, Bool.true_beq, Bool.false_beq, BEq.rfl, Int.reduceEq, Int.reduceLT, Int.reduceLE, Nat.reduceEqDiff, decide_true, decide_false, Bool.not_true, Bool.not_false, Bool.and_true, Bool.true_and, Bool.and_false, Bool.false_and, Bool.or_true, Bool.true_or, Bool.or_false, Bool.false_or, Bool.not_not]
              refine s_fetch_Fetch_Tell (f := f) (a := y) ?_
              try simp (maxSteps := 2000000) only [↓RG, RP, true_and, and_true, beq_true, beq_false, Bool.true_beq, Bool.false_beq, BEq.rfl, Int.reduceEq, Int.reduceLT, Int.reduceLE, Nat.reduceEqDiff, decide_true, decide_false, Bool.not_true, Bool.not_false, Bool.and_true, Bool.true_and, Bool.and_false, Bool.false_and, Bool.or_true, Bool.true_or, Bool.or_false, Bool.false_or, Bool.not_not]
              rw [G_rot3, ← RFetchR_open]
              refine s_ref23_Fetch_Tell (f := g) (a := y) ?_
              try simp (maxSteps := 2000000) only [↓RG, RP, true_and, and_true, beq_true, beq_false, Bool.true_beq, Bool.false_beq, BEq.rfl, Int.reduceEq, Int.reduceLT, Int.reduceLE, Nat.reduceEqDiff, decide_true, decide_false, Bool.not_true, Bool.not_false, Bool.and_true, Bool.true_and, Bool.and_false, Bool.false_and, Bool.or_true, Bool.true_or, Bool.or_false, Bool.false_or, Bool.not_not]
              rw [wsucc (by omega)]
              exact (hJ (k + 1, fetchTell f y, rfetchTell g y) ⟨by omega, hr.tell y, by rw [fetchTell_stripe]; exact hst⟩ (by simp; omega)).sub
            · refine G.cond (fun h4 => ?_) (fun h4 => ?_)
              · have h0 : 0 < k := by simp at h4; omega
                have ek : IntKind.wrap .i64 ((k : Int) - 1) = ((k - 1 : Nat) : Int) := by rw [wi64 (by omega) (by omega)]; omega
                have hk3 : k - 1 < qs.length := by omega
                have e' := elem_of hk3
                try simp (maxSteps := 2000000) only [↓RG, RP, true_and, and_true, beq_true, beq_false, Bool.true_beq, Bool.false_beq, BEq.rfl, Int.reduceEq, Int.reduceLT, Int.reduceLE, Nat.reduceEqDiff, decide_true, decide_false, Bool.not_true, Bool.not_false, Bool.and_true, Bool.true_and, Bool.and_false, Bool.false_and, Bool.or_true, Bool.true_or, Bool.or_false, Bool.false_or, Bool.not_not, ek]
                refine s_law23_near fun y => ?_
                try simp (maxSteps := 2000000) only [↓RG, RP, true_and, and_true, beq_true, beq_false, Bool.true_beq, Bool.false_beq, BEq.rfl, Int.reduceEq, Int.reduceLT, Int.reduceLE, Nat.reduceEqDiff, decide_true, decide_false, Bool.not_true, Bool.not_false, Bool.and_true, Bool.true_and, Bool.and_false, Bool.false_and, Bool.or_true, Bool.true_or, Bool.or_false, Bool.false_or, Bool.not_not]
                exact (hJ4 y trivial).sub
              · exact (hJ4 y trivial).sub
          · rw [wsucc (by omega)]
            rw [G_swap, ← RFetchR_open]
            exact (hJ (k + 1, f, g) ⟨by omega, hr, hst⟩ (by simp; omega)).sub
        · by_cases h2 : f.pat.fin = 2
          · have hj := hJ3 () trivial
            simp only [if_pos h2] at hj
            repeat' (first | (with_reducible refine G.joini0 ?_) | (with_reducible refine G.joini1 ?_) | (with_reducible refine G.drew ?_) | (simp (maxSteps := 2000000) only [↓RG, RP, true_and, and_true, beq_true, beq_false, Bool.true_beq, Bool.false_beq, BEq.rfl, Int.reduceEq, Int.reduceLT, Int.reduceLE, Nat.reduceEqDiff, decide_true, decide_false, Bool.not_true, Bool.not_false, Bool.and_true, Bool.true_and, Bool.and_false, Bool.false_and, Bool.or_true, Bool.true_or, Bool.or_false, Bool.false_or, Bool.not_not, hfin, h2]))
            rw [hst, ← hr.word, ← hr.lock] at hj
            exact hj.sub
          · have hj := hJ3 () trivial
            simp only [if_neg h2] at hj
            repeat' (first | (with_reducible refine G.joini0 ?_) | (with_reducible refine G.joini1 ?_) | (with_reducible refine G.drew ?_) | (simp (maxSteps := 2000000) only [↓RG, RP, true_and, and_true, beq_true, beq_false, Bool.true_beq, Bool.false_beq, BEq.rfl, Int.reduceEq, Int.reduceLT, Int.reduceLE, Nat.reduceEqDiff, decide_true, decide_false, Bool.not_true, Bool.not_false, Bool.and_true, Bool.true_and, Bool.and_false, Bool.false_and, Bool.or_true, Bool.true_or, Bool.or_false, Bool.false_or, Bool.not_not, hfin, h2]))
            exact hj.sub
      · by_cases hf : f.pat.fin = 0
        · try simp (maxSteps := 2000000) only [↓RG, RP, true_and, and_true, beq_true, beq_false, Bool.true_beq, Bool.false_beq, BEq.rfl, Int.reduceEq, Int.reduceLT, Int.reduceLE, Nat.reduceEqDiff, decide_true, decide_false, Bool.not_true, Bool.not_false, Bool.and_true, Bool.true_and, Bool.and_false, Bool.false_and, Bool.or_true, Bool.true_or, Bool.or_false, Bool.false_or, Bool.not_not, hf]
          rw [← RFetchR_open]
          refine s_ref23_Fetch_Next (f := g) ?_
          rw [e2 hf]
          try simp (maxSteps := 2000000) only [↓RG, RP, true_and, and_true, beq_true, beq_false, Bool.true_beq, Bool.false_beq, BEq.rfl, Int.reduceEq, Int.reduceLT, Int.reduceLE, Nat.reduceEqDiff, decide_true, decide_false, Bool.not_true, Bool.not_false, Bool.and_true, Bool.true_and, Bool.and_false, Bool.false_and, Bool.or_true, Bool.true_or, Bool.or_false, Bool.false_or, Bool.not_not]
          exact (hJ2 () trivial).sub
        · have hz := e3 hf
          subst hz
          try simp (maxSteps := 2000000) only [↓RG, RP, true_and, and_true, beq_true, beq_false, Bool.true_beq, Bool.false_beq, BEq.rfl, Int.reduceEq, Int.reduceLT, Int.reduceLE, Nat.reduceEqDiff, decide_true, decide_false, Bool.not_true, Bool.not_false, Bool.and_true, Bool.true_and, Bool.and_false, Bool.false_and, Bool.or_true, Bool.true_or, Bool.or_false, Bool.false_or, Bool.not_not, hf]
          rw [← RFetchR_open]
          have hj := hJ2 () trivial
          simp only [zeroOp, zeroLock] at hj ⊢
          exact hj.sub
    · exact hK.sub
  · cases raw
    · try simp (maxSteps := 2000000) only [↓RG, RP, true_and, and_true, beq_true, beq_false, Bool.true_beq, Bool.false_beq, BEq.rfl, Int.reduceEq, Int.reduceLT, Int.reduceLE, Nat.reduceEqDiff, decide_true, decide_false, Bool.not_true, Bool.not_false, Bool.and_true, Bool.true_and, Bool.and_false, Bool.false_and, Bool.or_true, Bool.true_or, Bool.or_false, Bool.false_or, Bool.not_not]
      refine s_book_Within (by omega) (by omega) (by omega) (by omega) ?_
      try simp (maxSteps := 2000000) only [↓RG, RP, true_and, and_true, beq_true, beq_false, Bool.true_beq, Bool.false_beq, BEq.rfl, Int.reduceEq, Int.reduceLT, Int.reduceLE, Nat.reduceEqDiff, decide_true, decide_false, Bool.not_true, Bool.not_false, Bool.and_true, Bool.true_and, Bool.and_false, Bool.false_and, Bool.or_true, Bool.true_or, Bool.or_false, Bool.false_or, Bool.not_not]
      exact hJ (_, _) trivial
    · try simp (maxSteps := 2000000) only [↓RG, RP, true_and, and_true, beq_true, beq_false, Bool.true_beq, Bool.false_beq, BEq.rfl, Int.reduceEq, Int.reduceLT, Int.reduceLE, Nat.reduceEqDiff, decide_true, decide_false, Bool.not_true, Bool.not_false, Bool.and_true, Bool.true_and, Bool.and_false, Bool.false_and, Bool.or_true, Bool.true_or, Bool.or_false, Bool.false_or, Bool.not_not]
      exact hJ (me, sm) trivial

end
end Go.Proofs.Ytaghnmllaghcbaa.S
