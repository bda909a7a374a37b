/-
  CHAPTER 23: whoever writes between its steps, a word that is told is the one that stood at that version.
-/
import Derived.Test.YtaghnmllaghcbaaTrue
import Derived.Test.YtaghnmllaghcbaaFetchLaw
namespace Go.Proofs.Ytaghnmllaghcbaa.S
open Go Go.Proofs
set_option linter.unusedVariables false
set_option linter.unusedSimpArgs false

section
variable {w0 : World} {L M : List Asn} {K : KV} {F : World → Prop} {C : Asn → List Asn} {b : Nat} {f g : FetchS}

structure TrueS where
  v : Value
  was : List Int
  ph : Nat
  i : Nat
  m : MemS
  f : FetchS

set_option maxRecDepth 20000 in
set_option maxHeartbeats 4000000 in
theorem s_law23_FetchTrue {st sp : Int} {l : Value} {qs : List TMove} [a1 : Arg w0 l tMoveE qs] (hn1 : inK .u8 st) (hn2 : inK .u8 sp) (hK : G w0 L (K (.bool true))) :
    G w0 L (CP Try.prog Fn.law23_FetchTrue [l, .int .u8 st, .int .u8 sp] K) := by
  have g1 := inK_u8 hn1
  have g2 := inK_u8 hn2
  refine C_law23_FetchTrue ?_
  unfold S_law23_FetchTrue
  refine s_law23_FetchRuns ?_
  try simp (maxSteps := 2000000) only [fuse_and, fuse_or, fuse_step, fuse_pair, fuse_in, andP_true]
  try simp (maxSteps := 2000000) only [↓RG, RP, true_and, and_true, beq_true, beq_false, Bool.true_beq, Bool.false_beq, BEq.rfl, Int.reduceEq, Int.reduceLT, Int.reduceLE, Nat.reduceEqDiff, decide_true, decide_false, Bool.not_true, Bool.not_false, Bool.and_true, Bool.true_and, Bool.and_false, Bool.false_and, Bool.or_true, Bool.true_or, Bool.or_false, Bool.false_or, Bool.not_not]
  refine s_mem_New (s := ⟨32, 1, 0, 2, 0⟩) fun b => ?_
  have e1 : IntKind.wrap .u64 (st.tmod 6) = st % 6 := by rw [Int.tmod_eq_emod_of_nonneg (by omega), wu64 (by omega) (by omega)]
  obtain ⟨t, ht⟩ : ∃ t, st % 6 = t := ⟨_, rfl⟩
  try simp (maxSteps := 2000000) only [↓RG, RP, true_and, and_true, beq_true, beq_false, Bool.true_beq, Bool.false_beq, BEq.rfl, Int.reduceEq, Int.reduceLT, Int.reduceLE, Nat.reduceEqDiff, decide_true, decide_false, Bool.not_true, Bool.not_false, Bool.and_true, Bool.true_and, Bool.and_false, Bool.false_and, Bool.or_true, Bool.true_or, Bool.or_false, Bool.false_or, Bool.not_not, e1, ht]
  generalize IntKind.wrap .i64 (sp.tmod 5) = sp'
  refine s_fetch_New fun c => ?_
  try simp (maxSteps := 2000000) only [↓RG, RP, true_and, and_true, beq_true, beq_false, Bool.true_beq, Bool.false_beq, BEq.rfl, Int.reduceEq, Int.reduceLT, Int.reduceLE, Nat.reduceEqDiff, decide_true, decide_false, Bool.not_true, Bool.not_false, Bool.and_true, Bool.true_and, Bool.and_false, Bool.false_and, Bool.or_true, Bool.true_or, Bool.or_false, Bool.false_or, Bool.not_not]
  refine G.build wordE [0] rfl (by simp) rfl fun v0 hv0 => ?_
  have hm0 : TrueMem (newMem ⟨32, 1, 0, 2, 0⟩) [0] 0 := ⟨rfl, by simp, by simp, by omega, rfl, rfl⟩
  have hf0 : TrueFetch t (fetchNew 0 9 0 sp' t) [0] 0 := ⟨rfl, rfl, rfl, rfl, .inl rfl, fun _ h => by simp [fetchNew] at h, fun h => by simp [fetchNew, newPat] at h⟩
  refine G.loop3 (σ := TrueS) (fun s => s.v) (fun s => i64 s.ph) (fun s => i64 s.i) (fun s => sl wordE s.v s.was :: ob FetchR c s.f :: ob MemR b s.m :: L) (fun s => s.i ≤ qs.length ∧ s.i ≤ 60 ∧ Cells s.v [s.v] ∧ TrueMem s.m s.was s.ph ∧ TrueFetch t s.f s.was s.ph ∧ s.was.length ≤ s.i + 1) (fun s => qs.length - s.i)
    ⟨v0, [0], 0, 0, newMem ⟨32, 1, 0, 2, 0⟩, fetchNew 0 9 0 sp' t⟩ rfl rfl rfl rfl ⟨by simp, by simp, hv0, hm0, hf0, by simp⟩ ?_
  rintro ⟨v, was, ph, k, m, f⟩ ⟨hk, hk60, hv, hm, hf, hwl⟩ J hJ
  simp only at hk hk60 hv hm hf hwl hJ ⊢
  try simp (maxSteps := 2000000) only [↓RG, RP, true_and, and_true, beq_true, beq_false, Bool.true_beq, Bool.false_beq, BEq.rfl, Int.reduceEq, Int.reduceLT, Int.reduceLE, Nat.reduceEqDiff, decide_true, decide_false, Bool.not_true, Bool.not_false, Bool.and_true, Bool.true_and, Bool.and_false, Bool.false_and, Bool.or_true, Bool.true_or, Bool.or_false, Bool.false_or, Bool.not_not]
  refine G.cond (fun h => ?_) (fun h => ?_)
  · have hk2 : k < qs.length := by simp at h; omega
    have hk3 : k < 60 := by simp at h; omega
    have e := elem_of hk2
    have next : ∀ s : TrueS, Cells s.v [s.v] ∧ TrueMem s.m s.was s.ph ∧ TrueFetch t s.f s.was s.ph ∧ s.was.length ≤ k + 2 → G w0 (sl wordE s.v s.was :: ob FetchR c s.f :: ob MemR b s.m :: L) (J s.v (i64 s.ph) (i64 ((k + 1 : Nat)))) := fun s hs =>
      hJ ⟨s.v, s.was, s.ph, k + 1, s.m, s.f⟩ ⟨hk2, by simp; omega, hs.1, hs.2.1, hs.2.2.1, by simp; exact hs.2.2.2⟩ (by simp; omega)
    have ne := hm.ne
    have few := hm.few
    have w1 : IntKind.wrap .i64 ((was.length : Int) - 1) = ((was.length - 1 : Nat) : Int) := by rw [wi64 (by omega) (by omega)]; omega
    have w2 : IntKind.wrap .u64 ((was.length - 1 : Nat) : Int) = ((was.length - 1 : Nat) : Int) := wu64 (by omega) (by omega)
    have w3 : IntKind.wrap .u64 (100 + ((was.length - 1 : Nat) : Int)) = 100 + ((was.length - 1 : Nat) : Int) := wu64 (by omega) (by omega)
    have w4 : IntKind.wrap .u64 (((was.length - 1 : Nat) : Int) + 1) = (was.length : Int) := by rw [wu64 (by omega) (by omega)]; omega
    refine G.joini2 ?_
    rw [wsucc (by omega)]
    try simp (maxSteps := 2000000) only [↓RG, RP, true_and, and_true, beq_true, beq_false, Bool.true_beq, Bool.false_beq, BEq.rfl, Int.reduceEq, Int.reduceLT, Int.reduceLE, Nat.reduceEqDiff, decide_true, decide_false, Bool.not_true, Bool.not_false, Bool.and_true, Bool.true_and, Bool.and_false, Bool.false_and, Bool.or_true, Bool.true_or, Bool.or_false, Bool.false_or, Bool.not_not, w1, w2]
    cases hmine : qs[k].mine
    · try simp (maxSteps := 2000000) only [↓RG, RP, true_and, and_true, beq_true, beq_false, Bool.true_beq, Bool.false_beq, BEq.rfl, Int.reduceEq, Int.reduceLT, Int.reduceLE, Nat.reduceEqDiff, decide_true, decide_false, Bool.not_true, Bool.not_false, Bool.and_true, Bool.true_and, Bool.and_false, Bool.false_and, Bool.or_true, Bool.true_or, Bool.or_false, Bool.false_or, Bool.not_not]
      refine G.joini2 ?_
      try simp (maxSteps := 2000000) only [↓RG, RP, true_and, and_true, beq_true, beq_false, Bool.true_beq, Bool.false_beq, BEq.rfl, Int.reduceEq, Int.reduceLT, Int.reduceLE, Nat.reduceEqDiff, decide_true, decide_false, Bool.not_true, Bool.not_false, Bool.and_true, Bool.true_and, Bool.and_false, Bool.false_and, Bool.or_true, Bool.true_or, Bool.or_false, Bool.false_or, Bool.not_not]
      have hph := hm.ph
      have : ph = 0 ∨ ph = 1 ∨ ph = 2 := by omega
      have c0 : ((0 : Nat) : Int) = 0 := rfl
      have c1 : ((1 : Nat) : Int) = 1 := rfl
      have c2 : ((2 : Nat) : Int) = 2 := rfl
      have q0 : (IntKind.wrap .i64 (0 + 1)).tmod 3 = ((1 : Nat) : Int) := by decide
      have q1 : (IntKind.wrap .i64 (1 + 1)).tmod 3 = ((2 : Nat) : Int) := by decide
      have q2 : (IntKind.wrap .i64 (2 + 1)).tmod 3 = ((0 : Nat) : Int) := by decide
      rcases this with rfl | rfl | rfl
      · rw [c0]
        try simp (maxSteps := 2000000) only [↓RG, RP, true_and, and_true, beq_true, beq_false, Bool.true_beq, Bool.false_beq, BEq.rfl, Int.reduceEq, Int.reduceLT, Int.reduceLE, Nat.reduceEqDiff, decide_true, decide_false, Bool.not_true, Bool.not_false, Bool.and_true, Bool.true_and, Bool.and_false, Bool.false_and, Bool.or_true, Bool.true_or, Bool.or_false, Bool.false_or, Bool.not_not, q0]
        refine s_mem_Mem_Do' (m := m) ?_
        try simp (maxSteps := 2000000) only [↓RG, RP, true_and, and_true, beq_true, beq_false, Bool.true_beq, Bool.false_beq, BEq.rfl, Int.reduceEq, Int.reduceLT, Int.reduceLE, Nat.reduceEqDiff, decide_true, decide_false, Bool.not_true, Bool.not_false, Bool.and_true, Bool.true_and, Bool.and_false, Bool.false_and, Bool.or_true, Bool.true_or, Bool.or_false, Bool.false_or, Bool.not_not]
        exact (next ⟨v, was, 1, 0, _, f⟩ ⟨hv, hm.take, hf.move (by decide), by simp; omega⟩).sub
      · rw [c1]
        try simp (maxSteps := 2000000) only [↓RG, RP, true_and, and_true, beq_true, beq_false, Bool.true_beq, Bool.false_beq, BEq.rfl, Int.reduceEq, Int.reduceLT, Int.reduceLE, Nat.reduceEqDiff, decide_true, decide_false, Bool.not_true, Bool.not_false, Bool.and_true, Bool.true_and, Bool.and_false, Bool.false_and, Bool.or_true, Bool.true_or, Bool.or_false, Bool.false_or, Bool.not_not, q1, q2]
        refine G.joini2 ?_
        try simp (maxSteps := 2000000) only [↓RG, RP, true_and, and_true, beq_true, beq_false, Bool.true_beq, Bool.false_beq, BEq.rfl, Int.reduceEq, Int.reduceLT, Int.reduceLE, Nat.reduceEqDiff, decide_true, decide_false, Bool.not_true, Bool.not_false, Bool.and_true, Bool.true_and, Bool.and_false, Bool.false_and, Bool.or_true, Bool.true_or, Bool.or_false, Bool.false_or, Bool.not_not, q1, q2]
        refine G.joini1 ?_
        cases hag : qs[k].again
        · try simp (maxSteps := 2000000) only [↓RG, RP, true_and, and_true, beq_true, beq_false, Bool.true_beq, Bool.false_beq, BEq.rfl, Int.reduceEq, Int.reduceLT, Int.reduceLE, Nat.reduceEqDiff, decide_true, decide_false, Bool.not_true, Bool.not_false, Bool.and_true, Bool.true_and, Bool.and_false, Bool.false_and, Bool.or_true, Bool.true_or, Bool.or_false, Bool.false_or, Bool.not_not, w3, q1]
          refine s_mem_Mem_Do' (m := m) ?_
          try simp (maxSteps := 2000000) only [↓RG, RP, true_and, and_true, beq_true, beq_false, Bool.true_beq, Bool.false_beq, BEq.rfl, Int.reduceEq, Int.reduceLT, Int.reduceLE, Nat.reduceEqDiff, decide_true, decide_false, Bool.not_true, Bool.not_false, Bool.and_true, Bool.true_and, Bool.and_false, Bool.false_and, Bool.or_true, Bool.true_or, Bool.or_false, Bool.false_or, Bool.not_not]
          exact (next ⟨v, was, 2, 0, _, f⟩ ⟨hv, hm.write, hf.move (by decide), by simp; omega⟩).sub
        · try simp (maxSteps := 2000000) only [↓RG, RP, true_and, and_true, beq_true, beq_false, Bool.true_beq, Bool.false_beq, BEq.rfl, Int.reduceEq, Int.reduceLT, Int.reduceLE, Nat.reduceEqDiff, decide_true, decide_false, Bool.not_true, Bool.not_false, Bool.and_true, Bool.true_and, Bool.and_false, Bool.false_and, Bool.or_true, Bool.true_or, Bool.or_false, Bool.false_or, Bool.not_not, q2]
          refine s_mem_Mem_Do' (m := m) ?_
          try simp (maxSteps := 2000000) only [↓RG, RP, true_and, and_true, beq_true, beq_false, Bool.true_beq, Bool.false_beq, BEq.rfl, Int.reduceEq, Int.reduceLT, Int.reduceLE, Nat.reduceEqDiff, decide_true, decide_false, Bool.not_true, Bool.not_false, Bool.and_true, Bool.true_and, Bool.and_false, Bool.false_and, Bool.or_true, Bool.true_or, Bool.or_false, Bool.false_or, Bool.not_not]
          exact (next ⟨v, was, 0, 0, _, f⟩ ⟨hv, hm.free, hf.move (by decide), by simp; omega⟩).sub
      · rw [c2]
        try simp (maxSteps := 2000000) only [↓RG, RP, true_and, and_true, beq_true, beq_false, Bool.true_beq, Bool.false_beq, BEq.rfl, Int.reduceEq, Int.reduceLT, Int.reduceLE, Nat.reduceEqDiff, decide_true, decide_false, Bool.not_true, Bool.not_false, Bool.and_true, Bool.true_and, Bool.and_false, Bool.false_and, Bool.or_true, Bool.true_or, Bool.or_false, Bool.false_or, Bool.not_not, q2]
        refine G.joini2 ?_
        try simp (maxSteps := 2000000) only [↓RG, RP, true_and, and_true, beq_true, beq_false, Bool.true_beq, Bool.false_beq, BEq.rfl, Int.reduceEq, Int.reduceLT, Int.reduceLE, Nat.reduceEqDiff, decide_true, decide_false, Bool.not_true, Bool.not_false, Bool.and_true, Bool.true_and, Bool.and_false, Bool.false_and, Bool.or_true, Bool.true_or, Bool.or_false, Bool.false_or, Bool.not_not, w4, q2]
        refine s_mem_Mem_Do' (m := m) ?_
        try simp (maxSteps := 2000000) only [↓RG, RP, true_and, and_true, beq_true, beq_false, Bool.true_beq, Bool.false_beq, BEq.rfl, Int.reduceEq, Int.reduceLT, Int.reduceLE, Nat.reduceEqDiff, decide_true, decide_false, Bool.not_true, Bool.not_false, Bool.and_true, Bool.true_and, Bool.and_false, Bool.false_and, Bool.or_true, Bool.true_or, Bool.or_false, Bool.false_or, Bool.not_not, w3]
        refine G.append1 rfl rfl (by decide) (by omega) (by simp only [maxLen]; omega) fun y hy => ?_
        try simp (maxSteps := 2000000) only [↓RG, RP, true_and, and_true, beq_true, beq_false, Bool.true_beq, Bool.false_beq, BEq.rfl, Int.reduceEq, Int.reduceLT, Int.reduceLE, Nat.reduceEqDiff, decide_true, decide_false, Bool.not_true, Bool.not_false, Bool.and_true, Bool.true_and, Bool.and_false, Bool.false_and, Bool.or_true, Bool.true_or, Bool.or_false, Bool.false_or, Bool.not_not]
        exact (next ⟨y, was ++ [100 + ((was.length - 1 : Nat) : Int)], 0, 0, _, f⟩ ⟨hy, hm.give (by omega), hf.grow, by simp; omega⟩).sub
    · try simp (maxSteps := 2000000) only [↓RG, RP, true_and, and_true, beq_true, beq_false, Bool.true_beq, Bool.false_beq, BEq.rfl, Int.reduceEq, Int.reduceLT, Int.reduceLE, Nat.reduceEqDiff, decide_true, decide_false, Bool.not_true, Bool.not_false, Bool.and_true, Bool.true_and, Bool.and_false, Bool.false_and, Bool.or_true, Bool.true_or, Bool.or_false, Bool.false_or, Bool.not_not]
      refine s_fetch_Fetch_Next (f := f) ?_
      try simp (maxSteps := 2000000) only [↓RG, RP, true_and, and_true, beq_true, beq_false, Bool.true_beq, Bool.false_beq, BEq.rfl, Int.reduceEq, Int.reduceLT, Int.reduceLE, Nat.reduceEqDiff, decide_true, decide_false, Bool.not_true, Bool.not_false, Bool.and_true, Bool.true_and, Bool.and_false, Bool.false_and, Bool.or_true, Bool.true_or, Bool.or_false, Bool.false_or, Bool.not_not]
      refine G.new fun p => ?_
      try simp (maxSteps := 2000000) only [↓RG, RP, true_and, and_true, beq_true, beq_false, Bool.true_beq, Bool.false_beq, BEq.rfl, Int.reduceEq, Int.reduceLT, Int.reduceLE, Nat.reduceEqDiff, decide_true, decide_false, Bool.not_true, Bool.not_false, Bool.and_true, Bool.true_and, Bool.and_false, Bool.false_and, Bool.or_true, Bool.true_or, Bool.or_false, Bool.false_or, Bool.not_not]
      refine G.joini0 ?_
      by_cases hfin : f.pat.fin = 0
      · obtain ⟨k1, k2⟩ := TrueFetch.mine hm hf hfin
        have h2 : (fetchNext f).2 = true := by unfold fetchNext; rw [if_pos hfin]; split <;> rfl
        try simp (maxSteps := 2000000) only [↓RG, RP, true_and, and_true, beq_true, beq_false, Bool.true_beq, Bool.false_beq, BEq.rfl, Int.reduceEq, Int.reduceLT, Int.reduceLE, Nat.reduceEqDiff, decide_true, decide_false, Bool.not_true, Bool.not_false, Bool.and_true, Bool.true_and, Bool.and_false, Bool.false_and, Bool.or_true, Bool.true_or, Bool.or_false, Bool.false_or, Bool.not_not, h2]
        refine s_mem_Mem_Do (m := m) (o := (fetchNext f).1) ?_
        try simp (maxSteps := 2000000) only [↓RG, RP, true_and, and_true, beq_true, beq_false, Bool.true_beq, Bool.false_beq, BEq.rfl, Int.reduceEq, Int.reduceLT, Int.reduceLE, Nat.reduceEqDiff, decide_true, decide_false, Bool.not_true, Bool.not_false, Bool.and_true, Bool.true_and, Bool.and_false, Bool.false_and, Bool.or_true, Bool.true_or, Bool.or_false, Bool.false_or, Bool.not_not]
        refine s_fetch_Fetch_Tell (f := f) (a := (memDo m (fetchNext f).1).2) ?_
        try simp (maxSteps := 2000000) only [↓RG, RP, true_and, and_true, beq_true, beq_false, Bool.true_beq, Bool.false_beq, BEq.rfl, Int.reduceEq, Int.reduceLT, Int.reduceLE, Nat.reduceEqDiff, decide_true, decide_false, Bool.not_true, Bool.not_false, Bool.and_true, Bool.true_and, Bool.and_false, Bool.false_and, Bool.or_true, Bool.true_or, Bool.or_false, Bool.false_or, Bool.not_not]
        exact (next ⟨v, was, ph, 0, (memDo m (fetchNext f).1).1, fetchTell f (memDo m (fetchNext f).1).2⟩ ⟨hv, k1, k2, by simp; omega⟩).sub
      · have h2 : (fetchNext f).2 = false := by unfold fetchNext; rw [if_neg hfin]
        try simp (maxSteps := 2000000) only [↓RG, RP, true_and, and_true, beq_true, beq_false, Bool.true_beq, Bool.false_beq, BEq.rfl, Int.reduceEq, Int.reduceLT, Int.reduceLE, Nat.reduceEqDiff, decide_true, decide_false, Bool.not_true, Bool.not_false, Bool.and_true, Bool.true_and, Bool.and_false, Bool.false_and, Bool.or_true, Bool.true_or, Bool.or_false, Bool.false_or, Bool.not_not, h2]
        exact (next ⟨v, was, ph, 0, m, f⟩ ⟨hv, hm, hf, by simp; omega⟩).sub
  · refine s_fetch_Fetch_End (f := f) ?_
    try simp (maxSteps := 2000000) only [↓RG, RP, true_and, and_true, beq_true, beq_false, Bool.true_beq, Bool.false_beq, BEq.rfl, Int.reduceEq, Int.reduceLT, Int.reduceLE, Nat.reduceEqDiff, decide_true, decide_false, Bool.not_true, Bool.not_false, Bool.and_true, Bool.true_and, Bool.and_false, Bool.false_and, Bool.or_true, Bool.true_or, Bool.or_false, Bool.false_or, Bool.not_not]
    refine G.joini1 ?_
    rcases hf.ends with h0 | h0 | h0
    · try simp (maxSteps := 2000000) only [↓RG, RP, true_and, and_true, beq_true, beq_false, Bool.true_beq, Bool.false_beq, BEq.rfl, Int.reduceEq, Int.reduceLT, Int.reduceLE, Nat.reduceEqDiff, decide_true, decide_false, Bool.not_true, Bool.not_false, Bool.and_true, Bool.true_and, Bool.and_false, Bool.false_and, Bool.or_true, Bool.true_or, Bool.or_false, Bool.false_or, Bool.not_not, h0]
      refine s_fetch_Fetch_Word (f := f) ?_
      try simp (maxSteps := 2000000) only [↓RG, RP, true_and, and_true, beq_true, beq_false, Bool.true_beq, Bool.false_beq, BEq.rfl, Int.reduceEq, Int.reduceLT, Int.reduceLE, Nat.reduceEqDiff, decide_true, decide_false, Bool.not_true, Bool.not_false, Bool.and_true, Bool.true_and, Bool.and_false, Bool.false_and, Bool.or_true, Bool.true_or, Bool.or_false, Bool.false_or, Bool.not_not, h0]
      exact hK.sub
    · try simp (maxSteps := 2000000) only [↓RG, RP, true_and, and_true, beq_true, beq_false, Bool.true_beq, Bool.false_beq, BEq.rfl, Int.reduceEq, Int.reduceLT, Int.reduceLE, Nat.reduceEqDiff, decide_true, decide_false, Bool.not_true, Bool.not_false, Bool.and_true, Bool.true_and, Bool.and_false, Bool.false_and, Bool.or_true, Bool.true_or, Bool.or_false, Bool.false_or, Bool.not_not, h0]
      refine s_fetch_Fetch_Seen (f := f) ?_
      obtain ⟨x, x1, x2, x3, x4⟩ := hf.done h0
      rw [if_pos h0, hf.stripe, x1]
      have few := hm.few
      have w1 : IntKind.wrap .u64 (was.length : Int) = (was.length : Int) := wu64 (by omega) (by omega)
      have y3 : (x : Int) < was.length := by omega
      have e := elem_of x3
      have hg : was.getD x 0 = was[x] := by simp [x3]
      refine G.new fun q => ?_
      repeat' (first | (with_reducible refine G.joini0 ?_) | (with_reducible refine G.joini1 ?_) | (with_reducible refine G.drew ?_) | (simp (maxSteps := 2000000) only [↓RG, RP, true_and, and_true, beq_true, beq_false, Bool.true_beq, Bool.false_beq, BEq.rfl, Int.reduceEq, Int.reduceLT, Int.reduceLE, Nat.reduceEqDiff, decide_true, decide_false, Bool.not_true, Bool.not_false, Bool.and_true, Bool.true_and, Bool.and_false, Bool.false_and, Bool.or_true, Bool.true_or, Bool.or_false, Bool.false_or, Bool.not_not, w1, x2, y3]))
      refine s_fetch_Fetch_Word (f := f) ?_
      rw [if_pos h0, x4, hg]
      try simp (maxSteps := 2000000) only [↓RG, RP, true_and, and_true, beq_true, beq_false, Bool.true_beq, Bool.false_beq, BEq.rfl, Int.reduceEq, Int.reduceLT, Int.reduceLE, Nat.reduceEqDiff, decide_true, decide_false, Bool.not_true, Bool.not_false, Bool.and_true, Bool.true_and, Bool.and_false, Bool.false_and, Bool.or_true, Bool.true_or, Bool.or_false, Bool.false_or, Bool.not_not]
      exact hK.sub
    · try simp (maxSteps := 2000000) only [↓RG, RP, true_and, and_true, beq_true, beq_false, Bool.true_beq, Bool.false_beq, BEq.rfl, Int.reduceEq, Int.reduceLT, Int.reduceLE, Nat.reduceEqDiff, decide_true, decide_false, Bool.not_true, Bool.not_false, Bool.and_true, Bool.true_and, Bool.and_false, Bool.false_and, Bool.or_true, Bool.true_or, Bool.or_false, Bool.false_or, Bool.not_not, h0]
      refine s_fetch_Fetch_Word (f := f) ?_
      try simp (maxSteps := 2000000) only [↓RG, RP, true_and, and_true, beq_true, beq_false, Bool.true_beq, Bool.false_beq, BEq.rfl, Int.reduceEq, Int.reduceLT, Int.reduceLE, Nat.reduceEqDiff, decide_true, decide_false, Bool.not_true, Bool.not_false, Bool.and_true, Bool.true_and, Bool.and_false, Bool.false_and, Bool.or_true, Bool.true_or, Bool.or_false, Bool.false_or, Bool.not_not, h0]
      exact hK.sub

end
end Go.Proofs.Ytaghnmllaghcbaa.S
