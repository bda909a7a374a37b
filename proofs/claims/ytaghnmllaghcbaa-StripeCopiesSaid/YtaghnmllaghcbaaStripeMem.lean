/-
  CHAPTER 3: the statements' own functions that ask a table and a memory.
-/
import Derived.Test.YtaghnmllaghcbaaRefMem
import Derived.Test.YtaghnmllaghcbaaStripeLaw
namespace Go.Proofs.Ytaghnmllaghcbaa.S
open Go Go.Proofs
set_option linter.unusedVariables false
set_option linter.unusedSimpArgs false

section
variable {w0 : World} {L M : List Asn} {K : KV} {F : World → Prop} {C : Asn → List Asn} {b c : Nat} {m : MemS} {wide : Int}

theorem s_law3_lockOf {x : TLock} {raw : Bool} (hK : ∀ y : TLock, G w0 L (K (.agg #[u64 y.version, .bool y.held, i64 y.owner]))) : G w0 L (CP Try.prog Fn.law3_lockOf [.agg #[u64 x.version, .bool x.held, i64 x.owner], .bool raw] K) := by
  refine C_law3_lockOf ?_
  unfold S_law3_lockOf
  refine G.box fun p => ?_
  refine G.new fun q => ?_
  try simp (maxSteps := 2000000) only [↓RG, RP, true_and, and_true, beq_true, beq_false, Bool.true_beq, Bool.false_beq, BEq.rfl, Int.reduceEq, Int.reduceLT, Int.reduceLE, Nat.reduceEqDiff, decide_true, decide_false, Bool.not_true, Bool.not_false, Bool.and_true, Bool.true_and, Bool.and_false, Bool.false_and, Bool.or_true, Bool.true_or, Bool.or_false, Bool.false_or, Bool.not_not]
  cases raw
  · try simp (maxSteps := 2000000) only [↓RG, RP, true_and, and_true, beq_true, beq_false, Bool.true_beq, Bool.false_beq, BEq.rfl, Int.reduceEq, Int.reduceLT, Int.reduceLE, Nat.reduceEqDiff, decide_true, decide_false, Bool.not_true, Bool.not_false, Bool.and_true, Bool.true_and, Bool.and_false, Bool.false_and, Bool.or_true, Bool.true_or, Bool.or_false, Bool.false_or, Bool.not_not]
    refine G.joini0 ?_
    obtain ⟨v, h, o⟩ := x
    cases h
    · try simp (maxSteps := 2000000) only [↓RG, RP, true_and, and_true, beq_true, beq_false, Bool.true_beq, Bool.false_beq, BEq.rfl, Int.reduceEq, Int.reduceLT, Int.reduceLE, Nat.reduceEqDiff, decide_true, decide_false, Bool.not_true, Bool.not_false, Bool.and_true, Bool.true_and, Bool.and_false, Bool.false_and, Bool.or_true, Bool.true_or, Bool.or_false, Bool.false_or, Bool.not_not]
      exact (hK ⟨_, _, _⟩).sub
    · try simp (maxSteps := 2000000) only [↓RG, RP, true_and, and_true, beq_true, beq_false, Bool.true_beq, Bool.false_beq, BEq.rfl, Int.reduceEq, Int.reduceLT, Int.reduceLE, Nat.reduceEqDiff, decide_true, decide_false, Bool.not_true, Bool.not_false, Bool.and_true, Bool.true_and, Bool.and_false, Bool.false_and, Bool.or_true, Bool.true_or, Bool.or_false, Bool.false_or, Bool.not_not]
      exact (hK ⟨_, _, _⟩).sub
  · try simp (maxSteps := 2000000) only [↓RG, RP, true_and, and_true, beq_true, beq_false, Bool.true_beq, Bool.false_beq, BEq.rfl, Int.reduceEq, Int.reduceLT, Int.reduceLE, Nat.reduceEqDiff, decide_true, decide_false, Bool.not_true, Bool.not_false, Bool.and_true, Bool.true_and, Bool.and_false, Bool.false_and, Bool.or_true, Bool.true_or, Bool.or_false, Bool.false_or, Bool.not_not]
    exact (hK x).sub

theorem s_law3_same (hl : m.l.length ≤ 16) (hK : G w0 (ob TableR b (m.l, wide) :: ob RMemR c m :: M) (K (.bool true))) : G w0 (ob TableR b (m.l, wide) :: ob RMemR c m :: M) (CP Try.prog Fn.law3_same [ptr b 0, ptr c 0] K) := by
  refine C_law3_same ?_
  unfold S_law3_same
  try simp (maxSteps := 2000000) only [fuse_and, fuse_or, fuse_step, fuse_pair, fuse_in, andP_true]
  refine s_stripe_Table_All (ls := m.l) (by omega) fun u hu => ?_
  refine G.take1 RMemR c ?_
  rw [RMemR_open]
  intro vw vl vs hh
  have hh1 := hh.1
  have hh2 := hh.2.1
  have hh3 := hh.2.2
  have hK2 : G w0 (ob RMemR c m :: ob TableR b (m.l, wide) :: M) (K (.bool true)) := hK.sub
  rw [RMemR_open] at hK2
  have hK3 := hK2 vw vl vs hh
  refine G.drew ?_
  try simp (maxSteps := 2000000) only [↓RG, RP, true_and, and_true, beq_true, beq_false, Bool.true_beq, Bool.false_beq, BEq.rfl, Int.reduceEq, Int.reduceLT, Int.reduceLE, Nat.reduceEqDiff, decide_true, decide_false, Bool.not_true, Bool.not_false, Bool.and_true, Bool.true_and, Bool.and_false, Bool.false_and, Bool.or_true, Bool.true_or, Bool.or_false, Bool.false_or, Bool.not_not]
  refine s_stripe_Table_Len (ls := m.l) ?_
  try simp (maxSteps := 2000000) only [↓RG, RP, true_and, and_true, beq_true, beq_false, Bool.true_beq, Bool.false_beq, BEq.rfl, Int.reduceEq, Int.reduceLT, Int.reduceLE, Nat.reduceEqDiff, decide_true, decide_false, Bool.not_true, Bool.not_false, Bool.and_true, Bool.true_and, Bool.and_false, Bool.false_and, Bool.or_true, Bool.true_or, Bool.or_false, Bool.false_or, Bool.not_not]
  refine G.loopc1 (fun k : Nat => i64 k) (fun k => k ≤ m.l.length) (fun k => m.l.length - k) 0 rfl (by simp) ?_
  intro k hk J hJ
  try simp (maxSteps := 2000000) only [↓RG, RP, true_and, and_true, beq_true, beq_false, Bool.true_beq, Bool.false_beq, BEq.rfl, Int.reduceEq, Int.reduceLT, Int.reduceLE, Nat.reduceEqDiff, decide_true, decide_false, Bool.not_true, Bool.not_false, Bool.and_true, Bool.true_and, Bool.and_false, Bool.false_and, Bool.or_true, Bool.true_or, Bool.or_false, Bool.false_or, Bool.not_not]
  refine G.cond (fun h => ?_) (fun h => ?_)
  · have hk2 : k < m.l.length := by simpa using h
    have e := elem_of hk2
    refine G.drew ?_
    try simp (maxSteps := 2000000) only [↓RG, RP, true_and, and_true, beq_true, beq_false, Bool.true_beq, Bool.false_beq, BEq.rfl, Int.reduceEq, Int.reduceLT, Int.reduceLE, Nat.reduceEqDiff, decide_true, decide_false, Bool.not_true, Bool.not_false, Bool.and_true, Bool.true_and, Bool.and_false, Bool.false_and, Bool.or_true, Bool.true_or, Bool.or_false, Bool.false_or, Bool.not_not]
    rw [wsucc (by omega)]
    exact (hJ (k + 1) hk2 (by omega)).sub
  refine G.loopc1 (fun j : Nat => i64 ((j : Int) - 1)) (fun j => j ≤ 6) (fun j => 6 - j) 0 rfl (by simp) ?_
  intro j hj J2 hJ2
  try simp (maxSteps := 2000000) only [↓RG, RP, true_and, and_true, beq_true, beq_false, Bool.true_beq, Bool.false_beq, BEq.rfl, Int.reduceEq, Int.reduceLT, Int.reduceLE, Nat.reduceEqDiff, decide_true, decide_false, Bool.not_true, Bool.not_false, Bool.and_true, Bool.true_and, Bool.and_false, Bool.false_and, Bool.or_true, Bool.true_or, Bool.or_false, Bool.false_or, Bool.not_not]
  refine G.cond (fun h => ?_) (fun h => ?_)
  · have hj2 : j < 6 := by simp at h; omega
    generalize ho : (j : Int) - 1 = o
    refine G.nilsl intE ?_
    refine G.loop2 (σ := Value × Nat) (fun s => s.1) (fun s => i64 s.2) (fun s => sl intE s.1 (heldUpTo m.l o s.2) :: own c [i64 m.shape.words, i64 m.shape.stripes, i64 m.shape.wide, i64 m.shape.threads, u64 m.shape.start, vw, vl, u64 m.n, vs, i64 m.count] :: sl wordE vw m.w :: sl tLockE vl m.l :: sl wordE vs m.s :: sl tLockE u m.l :: ob TableR b (m.l, wide) :: M) (fun s => s.2 ≤ m.l.length ∧ Cells s.1 [s.1]) (fun s => m.l.length - s.2) (_, 0) rfl rfl rfl ⟨by simp, cells_slice⟩ ?_
    rintro ⟨v, k⟩ ⟨hk, hv⟩ J hJ
    simp only at hk hv hJ ⊢
    try simp (maxSteps := 2000000) only [↓RG, RP, true_and, and_true, beq_true, beq_false, Bool.true_beq, Bool.false_beq, BEq.rfl, Int.reduceEq, Int.reduceLT, Int.reduceLE, Nat.reduceEqDiff, decide_true, decide_false, Bool.not_true, Bool.not_false, Bool.and_true, Bool.true_and, Bool.and_false, Bool.false_and, Bool.or_true, Bool.true_or, Bool.or_false, Bool.false_or, Bool.not_not]
    refine G.cond (fun h => ?_) (fun h => ?_)
    · have hk2 : k < m.l.length := by simpa using h
      have e := elem_of hk2
      try simp (maxSteps := 2000000) only [↓RG, RP, true_and, and_true, beq_true, beq_false, Bool.true_beq, Bool.false_beq, BEq.rfl, Int.reduceEq, Int.reduceLT, Int.reduceLE, Nat.reduceEqDiff, decide_true, decide_false, Bool.not_true, Bool.not_false, Bool.and_true, Bool.true_and, Bool.and_false, Bool.false_and, Bool.or_true, Bool.true_or, Bool.or_false, Bool.false_or, Bool.not_not]
      refine G.all (decide (m.l[k].owner = o)) (fun _ K hK => by try simp (maxSteps := 2000000) only [↓RG, RP, true_and, and_true, beq_true, beq_false, Bool.true_beq, Bool.false_beq, BEq.rfl, Int.reduceEq, Int.reduceLT, Int.reduceLE, Nat.reduceEqDiff, decide_true, decide_false, Bool.not_true, Bool.not_false, Bool.and_true, Bool.true_and, Bool.and_false, Bool.false_and, Bool.or_true, Bool.true_or, Bool.or_false, Bool.false_or, Bool.not_not]; exact hK) ?_
      have hs := heldUpTo_succ m.l o k
      rw [getD_lock hk2] at hs
      have hlen := heldUpTo_length m.l o k
      refine G.join1 (σ := Value) (fun s => s) (fun s => sl intE s (heldUpTo m.l o (k + 1)) :: own c [i64 m.shape.words, i64 m.shape.stripes, i64 m.shape.wide, i64 m.shape.threads, u64 m.shape.start, vw, vl, u64 m.n, vs, i64 m.count] :: sl wordE vw m.w :: sl tLockE vl m.l :: sl wordE vs m.s :: sl tLockE u m.l :: ob TableR b (m.l, wide) :: M) (fun s => Cells s [s]) (fun y hy => ?_) (fun J3 hJ3 => ?_)
      · try simp (maxSteps := 2000000) only [↓RG, RP, true_and, and_true, beq_true, beq_false, Bool.true_beq, Bool.false_beq, BEq.rfl, Int.reduceEq, Int.reduceLT, Int.reduceLE, Nat.reduceEqDiff, decide_true, decide_false, Bool.not_true, Bool.not_false, Bool.and_true, Bool.true_and, Bool.and_false, Bool.false_and, Bool.or_true, Bool.true_or, Bool.or_false, Bool.false_or, Bool.not_not]
        rw [wsucc (by omega)]
        exact hJ (y, k + 1) ⟨hk2, hy⟩ (by simp; omega)
      · refine G.cond (fun h => ?_) (fun h => ?_)
        · rw [if_pos h] at hs
          refine G.append1 rfl rfl (by decide) (by omega) (by simp only [maxLen]; omega) fun y hy => ?_
          have := hJ3 y hy
          rw [hs] at this
          exact this.sub
        · rw [if_neg (by simp only [h]; decide)] at hs
          have := hJ3 v hv
          rw [hs] at this
          exact this.sub
    · have : k = m.l.length := by simp at h; omega
      subst this
      have hlen := heldUpTo_length m.l o m.l.length
      refine s_stripe_Table_Held (ls := m.l) (by omega) fun y hy => ?_
      try simp (maxSteps := 2000000) only [↓RG, RP, true_and, and_true, beq_true, beq_false, Bool.true_beq, Bool.false_beq, BEq.rfl, Int.reduceEq, Int.reduceLT, Int.reduceLE, Nat.reduceEqDiff, decide_true, decide_false, Bool.not_true, Bool.not_false, Bool.and_true, Bool.true_and, Bool.and_false, Bool.false_and, Bool.or_true, Bool.true_or, Bool.or_false, Bool.false_or, Bool.not_not]
      refine G.loopc1 (fun i : Nat => i64 i) (fun i => i ≤ (heldUpTo m.l o m.l.length).length) (fun i => 100 - i) 0 rfl (by simp) ?_
      intro i hi J4 hJ4
      try simp (maxSteps := 2000000) only [↓RG, RP, true_and, and_true, beq_true, beq_false, Bool.true_beq, Bool.false_beq, BEq.rfl, Int.reduceEq, Int.reduceLT, Int.reduceLE, Nat.reduceEqDiff, decide_true, decide_false, Bool.not_true, Bool.not_false, Bool.and_true, Bool.true_and, Bool.and_false, Bool.false_and, Bool.or_true, Bool.true_or, Bool.or_false, Bool.false_or, Bool.not_not]
      refine G.cond (fun h => ?_) (fun h => ?_)
      · have hi2 : i < (heldUpTo m.l o m.l.length).length := by simpa using h
        have e := elem_of hi2
        refine G.drew ?_
        try simp (maxSteps := 2000000) only [↓RG, RP, true_and, and_true, beq_true, beq_false, Bool.true_beq, Bool.false_beq, BEq.rfl, Int.reduceEq, Int.reduceLT, Int.reduceLE, Nat.reduceEqDiff, decide_true, decide_false, Bool.not_true, Bool.not_false, Bool.and_true, Bool.true_and, Bool.and_false, Bool.false_and, Bool.or_true, Bool.true_or, Bool.or_false, Bool.false_or, Bool.not_not]
        rw [wsucc (by omega)]
        exact hJ4 (i + 1) hi2 (by omega)
      · have ej : IntKind.wrap .i64 (o + 1) = ((j + 1 : Nat) : Int) - 1 := by rw [wi64 (by omega) (by omega)]; omega
        try simp (maxSteps := 2000000) only [↓RG, RP, true_and, and_true, beq_true, beq_false, Bool.true_beq, Bool.false_beq, BEq.rfl, Int.reduceEq, Int.reduceLT, Int.reduceLE, Nat.reduceEqDiff, decide_true, decide_false, Bool.not_true, Bool.not_false, Bool.and_true, Bool.true_and, Bool.and_false, Bool.false_and, Bool.or_true, Bool.true_or, Bool.or_false, Bool.false_or, Bool.not_not, ej]
        exact (hJ2 (j + 1) hj2 (by omega)).sub
  · exact hK3.sub

set_option maxRecDepth 20000 in
set_option maxHeartbeats 4000000 in
theorem s_law3_do {l : Value} {qs : List AskStripe} [a : Arg w0 l askStripeE qs] (hl : m.l.length ≤ 16) (hw : m.w.length ≤ 1000000)
    (hK : ∀ m', SameLen m m' → G w0 (ob TableR b (m'.l, wide) :: ob RMemR c m' :: M) (K (.bool true))) : G w0 (ob TableR b (m.l, wide) :: ob RMemR c m :: M) (CP Try.prog Fn.law3_do [ptr b 0, ptr c 0, l] K) := by
  refine C_law3_do ?_
  unfold S_law3_do
  try simp (maxSteps := 2000000) only [fuse_and, fuse_or, fuse_step, fuse_pair, fuse_in, andP_true]
  refine G.loop1 (σ := Nat × MemS) (fun s => i64 s.1) (fun s => ob TableR b (s.2.l, wide) :: ob RMemR c s.2 :: M) (fun s => s.1 ≤ qs.length ∧ SameLen m s.2) (fun s => qs.length - s.1) (0, m) rfl rfl ⟨by simp, .refl m⟩ ?_
  rintro ⟨k, z⟩ ⟨hk, hz⟩ J hJ
  simp only at hk hz hJ ⊢
  have hzl : z.l.length ≤ 16 := by rw [hz.l]; exact hl
  have hzw : z.w.length ≤ 1000000 := by rw [hz.w]; exact hw
  try simp (maxSteps := 2000000) only [↓RG, RP, true_and, and_true, beq_true, beq_false, Bool.true_beq, Bool.false_beq, BEq.rfl, Int.reduceEq, Int.reduceLT, Int.reduceLE, Nat.reduceEqDiff, decide_true, decide_false, Bool.not_true, Bool.not_false, Bool.and_true, Bool.true_and, Bool.and_false, Bool.false_and, Bool.or_true, Bool.true_or, Bool.or_false, Bool.false_or, Bool.not_not]
  refine G.cond (fun h => ?_) (fun h => ?_)
  · have hk2 : k < qs.length := by simp at h; omega
    have hk60 : k < 60 := by simp at h; omega
    have e := elem_of hk2
    have next : ∀ z', SameLen z z' → G w0 (ob TableR b (z'.l, wide) :: ob RMemR c z' :: M) (J (i64 ((k + 1 : Nat)))) := fun z' h' => hJ (k + 1, z') ⟨hk2, hz.trans h'⟩ (by simp; omega)
    have nextL : G w0 (ob TableR b (z.l, wide) :: ob RMemR c (memDo z ⟨3, qs[k].i, 0, 0, ⟨0, false, 0⟩, ⟨0, false, 0⟩⟩).1 :: M) (J (i64 ((k + 1 : Nat)))) := by
      have h := next _ (memDo_len z ⟨3, qs[k].i, 0, 0, ⟨0, false, 0⟩, ⟨0, false, 0⟩⟩)
      rw [memDo_load.2] at h
      exact h
    have nextS : ∀ y : TLock, G w0 (ob TableR b ((storeRes z.l qs[k].i y).1, wide) :: ob RMemR c (memDo z ⟨5, qs[k].i, 0, 0, ⟨0, false, 0⟩, y⟩).1 :: M) (J (i64 ((k + 1 : Nat)))) := fun y => by
      have h := next _ (memDo_len z ⟨5, qs[k].i, 0, 0, ⟨0, false, 0⟩, y⟩)
      rw [memDo_store.2] at h
      exact h
    have nextC : ∀ y u : TLock, G w0 (ob TableR b ((casRes z.l qs[k].i u y).1, wide) :: ob RMemR c (memDo z ⟨4, qs[k].i, 0, 0, u, y⟩).1 :: M) (J (i64 ((k + 1 : Nat)))) := fun y u => by
      have h := next _ (memDo_len z ⟨4, qs[k].i, 0, 0, u, y⟩)
      rw [memDo_cas.2] at h
      exact h
    refine G.joini0 ?_
    try simp (maxSteps := 2000000) only [↓RG, RP, true_and, and_true, beq_true, beq_false, Bool.true_beq, Bool.false_beq, BEq.rfl, Int.reduceEq, Int.reduceLT, Int.reduceLE, Nat.reduceEqDiff, decide_true, decide_false, Bool.not_true, Bool.not_false, Bool.and_true, Bool.true_and, Bool.and_false, Bool.false_and, Bool.or_true, Bool.true_or, Bool.or_false, Bool.false_or, Bool.not_not]
    refine G.new fun p => ?_
    try simp (maxSteps := 2000000) only [↓RG, RP, true_and, and_true, beq_true, beq_false, Bool.true_beq, Bool.false_beq, BEq.rfl, Int.reduceEq, Int.reduceLT, Int.reduceLE, Nat.reduceEqDiff, decide_true, decide_false, Bool.not_true, Bool.not_false, Bool.and_true, Bool.true_and, Bool.and_false, Bool.false_and, Bool.or_true, Bool.true_or, Bool.or_false, Bool.false_or, Bool.not_not]
    refine G.drew ?_
    try simp (maxSteps := 2000000) only [↓RG, RP, true_and, and_true, beq_true, beq_false, Bool.true_beq, Bool.false_beq, BEq.rfl, Int.reduceEq, Int.reduceLT, Int.reduceLE, Nat.reduceEqDiff, decide_true, decide_false, Bool.not_true, Bool.not_false, Bool.and_true, Bool.true_and, Bool.and_false, Bool.false_and, Bool.or_true, Bool.true_or, Bool.or_false, Bool.false_or, Bool.not_not]
    rw [wsucc (by omega)]
    repeat' (first | (refine ⟨?_, ?_⟩) | (refine s_law3_lockOf fun y => ?_) | (refine G.new fun x => ?_) | (simp (maxSteps := 2000000) only [↓RG, RP, true_and, and_true, beq_true, beq_false, Bool.true_beq, Bool.false_beq, BEq.rfl, Int.reduceEq, Int.reduceLT, Int.reduceLE, Nat.reduceEqDiff, decide_true, decide_false, Bool.not_true, Bool.not_false, Bool.and_true, Bool.true_and, Bool.and_false, Bool.false_and, Bool.or_true, Bool.true_or, Bool.or_false, Bool.false_or, Bool.not_not]))
    all_goals
      rename_i y1 y2
      refine G.joini0 ?_
      refine G.cond (fun h0 => ?_) (fun h0 => ?_)
      · try simp (maxSteps := 2000000) only [↓RG, RP, true_and, and_true, beq_true, beq_false, Bool.true_beq, Bool.false_beq, BEq.rfl, Int.reduceEq, Int.reduceLT, Int.reduceLE, Nat.reduceEqDiff, decide_true, decide_false, Bool.not_true, Bool.not_false, Bool.and_true, Bool.true_and, Bool.and_false, Bool.false_and, Bool.or_true, Bool.true_or, Bool.or_false, Bool.false_or, Bool.not_not]
        refine s_stripe_Table_Load (ls := z.l) ?_
        try simp (maxSteps := 2000000) only [↓RG, RP, true_and, and_true, beq_true, beq_false, Bool.true_beq, Bool.false_beq, BEq.rfl, Int.reduceEq, Int.reduceLT, Int.reduceLE, Nat.reduceEqDiff, decide_true, decide_false, Bool.not_true, Bool.not_false, Bool.and_true, Bool.true_and, Bool.and_false, Bool.false_and, Bool.or_true, Bool.true_or, Bool.or_false, Bool.false_or, Bool.not_not]
        refine G.new fun r => ?_
        try simp (maxSteps := 2000000) only [↓RG, RP, true_and, and_true, beq_true, beq_false, Bool.true_beq, Bool.false_beq, BEq.rfl, Int.reduceEq, Int.reduceLT, Int.reduceLE, Nat.reduceEqDiff, decide_true, decide_false, Bool.not_true, Bool.not_false, Bool.and_true, Bool.true_and, Bool.and_false, Bool.false_and, Bool.or_true, Bool.true_or, Bool.or_false, Bool.false_or, Bool.not_not]
        refine s_ref1_Mem_Do' (m := z) hzw ?_
        rw [memDo_load.1]
        try simp (maxSteps := 2000000) only [↓RG, RP, true_and, and_true, beq_true, beq_false, Bool.true_beq, Bool.false_beq, BEq.rfl, Int.reduceEq, Int.reduceLT, Int.reduceLE, Nat.reduceEqDiff, decide_true, decide_false, Bool.not_true, Bool.not_false, Bool.and_true, Bool.true_and, Bool.and_false, Bool.false_and, Bool.or_true, Bool.true_or, Bool.or_false, Bool.false_or, Bool.not_not]
        refine G.new fun r2 => ?_
        try simp (maxSteps := 2000000) only [↓RG, RP, true_and, and_true, beq_true, beq_false, Bool.true_beq, Bool.false_beq, BEq.rfl, Int.reduceEq, Int.reduceLT, Int.reduceLE, Nat.reduceEqDiff, decide_true, decide_false, Bool.not_true, Bool.not_false, Bool.and_true, Bool.true_and, Bool.and_false, Bool.false_and, Bool.or_true, Bool.true_or, Bool.or_false, Bool.false_or, Bool.not_not]
        exact nextL.sub
      try simp (maxSteps := 2000000) only [↓RG, RP, true_and, and_true, beq_true, beq_false, Bool.true_beq, Bool.false_beq, BEq.rfl, Int.reduceEq, Int.reduceLT, Int.reduceLE, Nat.reduceEqDiff, decide_true, decide_false, Bool.not_true, Bool.not_false, Bool.and_true, Bool.true_and, Bool.and_false, Bool.false_and, Bool.or_true, Bool.true_or, Bool.or_false, Bool.false_or, Bool.not_not]
      refine G.joini0 ?_
      refine G.cond (fun h1 => ?_) (fun h1 => ?_)
      · refine G.drew ?_
        try simp (maxSteps := 2000000) only [↓RG, RP, true_and, and_true, beq_true, beq_false, Bool.true_beq, Bool.false_beq, BEq.rfl, Int.reduceEq, Int.reduceLT, Int.reduceLE, Nat.reduceEqDiff, decide_true, decide_false, Bool.not_true, Bool.not_false, Bool.and_true, Bool.true_and, Bool.and_false, Bool.false_and, Bool.or_true, Bool.true_or, Bool.or_false, Bool.false_or, Bool.not_not]
        refine s_stripe_Table_Store (ls := z.l) ?_
        try simp (maxSteps := 2000000) only [↓RG, RP, true_and, and_true, beq_true, beq_false, Bool.true_beq, Bool.false_beq, BEq.rfl, Int.reduceEq, Int.reduceLT, Int.reduceLE, Nat.reduceEqDiff, decide_true, decide_false, Bool.not_true, Bool.not_false, Bool.and_true, Bool.true_and, Bool.and_false, Bool.false_and, Bool.or_true, Bool.true_or, Bool.or_false, Bool.false_or, Bool.not_not]
        refine s_ref1_Mem_Do' (m := z) hzw ?_
        rw [memDo_store.1]
        try simp (maxSteps := 2000000) only [↓RG, RP, true_and, and_true, beq_true, beq_false, Bool.true_beq, Bool.false_beq, BEq.rfl, Int.reduceEq, Int.reduceLT, Int.reduceLE, Nat.reduceEqDiff, decide_true, decide_false, Bool.not_true, Bool.not_false, Bool.and_true, Bool.true_and, Bool.and_false, Bool.false_and, Bool.or_true, Bool.true_or, Bool.or_false, Bool.false_or, Bool.not_not]
        first | exact (nextS y).sub | exact (nextS y1).sub | exact (nextS y2).sub
      · refine G.drew ?_
        try simp (maxSteps := 2000000) only [↓RG, RP, true_and, and_true, beq_true, beq_false, Bool.true_beq, Bool.false_beq, BEq.rfl, Int.reduceEq, Int.reduceLT, Int.reduceLE, Nat.reduceEqDiff, decide_true, decide_false, Bool.not_true, Bool.not_false, Bool.and_true, Bool.true_and, Bool.and_false, Bool.false_and, Bool.or_true, Bool.true_or, Bool.or_false, Bool.false_or, Bool.not_not]
        refine G.all (decide (qs[k].i ≥ 0)) (fun _ K hK => by try simp (maxSteps := 2000000) only [↓RG, RP, true_and, and_true, beq_true, beq_false, Bool.true_beq, Bool.false_beq, BEq.rfl, Int.reduceEq, Int.reduceLT, Int.reduceLE, Nat.reduceEqDiff, decide_true, decide_false, Bool.not_true, Bool.not_false, Bool.and_true, Bool.true_and, Bool.and_false, Bool.false_and, Bool.or_true, Bool.true_or, Bool.or_false, Bool.false_or, Bool.not_not]; exact hK) ?_
        refine G.take1 RMemR c ?_
        rw [RMemR_open]
        intro vw vl vs hh
        have hh2 := hh.2.1
        refine G.all (decide (qs[k].i < z.l.length)) (fun _ K hK => by try simp (maxSteps := 2000000) only [↓RG, RP, true_and, and_true, beq_true, beq_false, Bool.true_beq, Bool.false_beq, BEq.rfl, Int.reduceEq, Int.reduceLT, Int.reduceLE, Nat.reduceEqDiff, decide_true, decide_false, Bool.not_true, Bool.not_false, Bool.and_true, Bool.true_and, Bool.and_false, Bool.false_and, Bool.or_true, Bool.true_or, Bool.or_false, Bool.false_or, Bool.not_not]; exact hK) ?_
        refine G.joini0 ?_
        refine G.cond (fun h2 => ?_) (fun h2 => ?_)
        · obtain ⟨j, hj, hjl⟩ : ∃ j : Nat, qs[k].i = j ∧ j < z.l.length := by
            simp at h2; exact ⟨qs[k].i.toNat, by omega, by omega⟩
          have ix : IxI qs[k].i j := ⟨hj⟩
          have e2 := elem_of hjl
          refine G.drew ?_
          try simp (maxSteps := 2000000) only [↓RG, RP, true_and, and_true, beq_true, beq_false, Bool.true_beq, Bool.false_beq, BEq.rfl, Int.reduceEq, Int.reduceLT, Int.reduceLE, Nat.reduceEqDiff, decide_true, decide_false, Bool.not_true, Bool.not_false, Bool.and_true, Bool.true_and, Bool.and_false, Bool.false_and, Bool.or_true, Bool.true_or, Bool.or_false, Bool.false_or, Bool.not_not]
          refine Eq.mp RMemR_open ?_ vw vl vs hh
          refine s_stripe_Table_Cas (ls := z.l) ?_
          try simp (maxSteps := 2000000) only [↓RG, RP, true_and, and_true, beq_true, beq_false, Bool.true_beq, Bool.false_beq, BEq.rfl, Int.reduceEq, Int.reduceLT, Int.reduceLE, Nat.reduceEqDiff, decide_true, decide_false, Bool.not_true, Bool.not_false, Bool.and_true, Bool.true_and, Bool.and_false, Bool.false_and, Bool.or_true, Bool.true_or, Bool.or_false, Bool.false_or, Bool.not_not]
          refine s_ref1_Mem_Do' (m := z) hzw ?_
          rw [memDo_cas.1]
          try simp (maxSteps := 2000000) only [↓RG, RP, true_and, and_true, beq_true, beq_false, Bool.true_beq, Bool.false_beq, BEq.rfl, Int.reduceEq, Int.reduceLT, Int.reduceLE, Nat.reduceEqDiff, decide_true, decide_false, Bool.not_true, Bool.not_false, Bool.and_true, Bool.true_and, Bool.and_false, Bool.false_and, Bool.or_true, Bool.true_or, Bool.or_false, Bool.false_or, Bool.not_not]
          refine G.new fun r2 => ?_
          try simp (maxSteps := 2000000) only [↓RG, RP, true_and, and_true, beq_true, beq_false, Bool.true_beq, Bool.false_beq, BEq.rfl, Int.reduceEq, Int.reduceLT, Int.reduceLE, Nat.reduceEqDiff, decide_true, decide_false, Bool.not_true, Bool.not_false, Bool.and_true, Bool.true_and, Bool.and_false, Bool.false_and, Bool.or_true, Bool.true_or, Bool.or_false, Bool.false_or, Bool.not_not]
          first | exact (nextC y z.l[j]).sub | exact (nextC y1 z.l[j]).sub | exact (nextC y2 z.l[j]).sub
        · refine Eq.mp RMemR_open ?_ vw vl vs hh
          try simp (maxSteps := 2000000) only [↓RG, RP, true_and, and_true, beq_true, beq_false, Bool.true_beq, Bool.false_beq, BEq.rfl, Int.reduceEq, Int.reduceLT, Int.reduceLE, Nat.reduceEqDiff, decide_true, decide_false, Bool.not_true, Bool.not_false, Bool.and_true, Bool.true_and, Bool.and_false, Bool.false_and, Bool.or_true, Bool.true_or, Bool.or_false, Bool.false_or, Bool.not_not]
          refine s_stripe_Table_Cas (ls := z.l) ?_
          try simp (maxSteps := 2000000) only [↓RG, RP, true_and, and_true, beq_true, beq_false, Bool.true_beq, Bool.false_beq, BEq.rfl, Int.reduceEq, Int.reduceLT, Int.reduceLE, Nat.reduceEqDiff, decide_true, decide_false, Bool.not_true, Bool.not_false, Bool.and_true, Bool.true_and, Bool.and_false, Bool.false_and, Bool.or_true, Bool.true_or, Bool.or_false, Bool.false_or, Bool.not_not]
          refine s_ref1_Mem_Do' (m := z) hzw ?_
          rw [memDo_cas.1]
          try simp (maxSteps := 2000000) only [↓RG, RP, true_and, and_true, beq_true, beq_false, Bool.true_beq, Bool.false_beq, BEq.rfl, Int.reduceEq, Int.reduceLT, Int.reduceLE, Nat.reduceEqDiff, decide_true, decide_false, Bool.not_true, Bool.not_false, Bool.and_true, Bool.true_and, Bool.and_false, Bool.false_and, Bool.or_true, Bool.true_or, Bool.or_false, Bool.false_or, Bool.not_not]
          refine G.new fun r2 => ?_
          try simp (maxSteps := 2000000) only [↓RG, RP, true_and, and_true, beq_true, beq_false, Bool.true_beq, Bool.false_beq, BEq.rfl, Int.reduceEq, Int.reduceLT, Int.reduceLE, Nat.reduceEqDiff, decide_true, decide_false, Bool.not_true, Bool.not_false, Bool.and_true, Bool.true_and, Bool.and_false, Bool.false_and, Bool.or_true, Bool.true_or, Bool.or_false, Bool.false_or, Bool.not_not]
          first | exact (nextC y y1).sub | exact (nextC y1 y).sub | exact (nextC y y2).sub | exact (nextC y2 y).sub
  · refine s_law3_same hzl ?_
    exact hK z hz

theorem s_law3_StripePlays {n wd : Int} {l : Value} {qs : List AskStripe} [a : Arg w0 l askStripeE qs] (hK : G w0 L (K (.bool true))) : G w0 L (CP Try.prog Fn.law3_StripePlays [i64 n, i64 wd, l] K) := by
  refine C_law3_StripePlays ?_
  unfold S_law3_StripePlays
  refine s_law3_StripeRuns ?_
  try simp (maxSteps := 2000000) only [fuse_and, fuse_or, fuse_step, fuse_pair, fuse_in, andP_true]
  try simp (maxSteps := 2000000) only [↓RG, RP, true_and, and_true, beq_true, beq_false, Bool.true_beq, Bool.false_beq, BEq.rfl, Int.reduceEq, Int.reduceLT, Int.reduceLE, Nat.reduceEqDiff, decide_true, decide_false, Bool.not_true, Bool.not_false, Bool.and_true, Bool.true_and, Bool.and_false, Bool.false_and, Bool.or_true, Bool.true_or, Bool.or_false, Bool.false_or, Bool.not_not]
  refine s_stripe_New fun b => ?_
  have hn := held_le (n := n) (show (1 : Int) ≤ 16 by omega)
  try simp (maxSteps := 2000000) only [↓RG, RP, true_and, and_true, beq_true, beq_false, Bool.true_beq, Bool.false_beq, BEq.rfl, Int.reduceEq, Int.reduceLT, Int.reduceLE, Nat.reduceEqDiff, decide_true, decide_false, Bool.not_true, Bool.not_false, Bool.and_true, Bool.true_and, Bool.and_false, Bool.false_and, Bool.or_true, Bool.true_or, Bool.or_false, Bool.false_or, Bool.not_not]
  refine s_ref1_NewMem (s := ⟨0, n, wd, 0, 0⟩) fun c => ?_
  have e : (List.replicate (held n 1 16).toNat zeroLock) = (newMem ⟨0, n, wd, 0, 0⟩).l := rfl
  have hw0 := held_le (n := 0) (show (32 : Int) ≤ 256 by omega)
  rw [e]
  refine G.take1 TableR b ?_
  refine s_law3_do (m := newMem ⟨0, n, wd, 0, 0⟩) (by rw [← e]; simp; omega) (by simp [newMem]; omega) fun m' h' => ?_
  try simp (maxSteps := 2000000) only [↓RG, RP, true_and, and_true, beq_true, beq_false, Bool.true_beq, Bool.false_beq, BEq.rfl, Int.reduceEq, Int.reduceLT, Int.reduceLE, Nat.reduceEqDiff, decide_true, decide_false, Bool.not_true, Bool.not_false, Bool.and_true, Bool.true_and, Bool.and_false, Bool.false_and, Bool.or_true, Bool.true_or, Bool.or_false, Bool.false_or, Bool.not_not]
  exact hK.sub

theorem s_law3_StripeCopies {n wd : Int} {l1 l2 l3 : Value} {q1 q2 q3 : List AskStripe} [a1 : Arg w0 l1 askStripeE q1] [a2 : Arg w0 l2 askStripeE q2] [a3 : Arg w0 l3 askStripeE q3] (hK : G w0 L (K (.bool true))) :
    G w0 L (CP Try.prog Fn.law3_StripeCopies [i64 n, i64 wd, l1, l2, l3] K) := by
  refine C_law3_StripeCopies ?_
  unfold S_law3_StripeCopies
  refine s_law3_StripeRuns ?_
  try simp (maxSteps := 2000000) only [fuse_and, fuse_or, fuse_step, fuse_pair, fuse_in, andP_true]
  try simp (maxSteps := 2000000) only [↓RG, RP, true_and, and_true, beq_true, beq_false, Bool.true_beq, Bool.false_beq, BEq.rfl, Int.reduceEq, Int.reduceLT, Int.reduceLE, Nat.reduceEqDiff, decide_true, decide_false, Bool.not_true, Bool.not_false, Bool.and_true, Bool.true_and, Bool.and_false, Bool.false_and, Bool.or_true, Bool.true_or, Bool.or_false, Bool.false_or, Bool.not_not]
  refine s_stripe_New fun b => ?_
  have hn := held_le (n := n) (show (1 : Int) ≤ 16 by omega)
  try simp (maxSteps := 2000000) only [↓RG, RP, true_and, and_true, beq_true, beq_false, Bool.true_beq, Bool.false_beq, BEq.rfl, Int.reduceEq, Int.reduceLT, Int.reduceLE, Nat.reduceEqDiff, decide_true, decide_false, Bool.not_true, Bool.not_false, Bool.and_true, Bool.true_and, Bool.and_false, Bool.false_and, Bool.or_true, Bool.true_or, Bool.or_false, Bool.false_or, Bool.not_not]
  refine s_ref1_NewMem (s := ⟨0, n, wd, 0, 0⟩) fun c => ?_
  have e : (List.replicate (held n 1 16).toNat zeroLock) = (newMem ⟨0, n, wd, 0, 0⟩).l := rfl
  have hw0 := held_le (n := 0) (show (32 : Int) ≤ 256 by omega)
  have ht0 := held_le (n := 0) (show (1 : Int) ≤ 4 by omega)
  have hl1 : (newMem ⟨0, n, wd, 0, 0⟩).l.length ≤ 16 := by rw [← e]; simp; omega
  have hl2 : (newMem ⟨0, n, wd, 0, 0⟩).w.length ≤ 256 := by simp [newMem]; omega
  have hl3 : (newMem ⟨0, n, wd, 0, 0⟩).s.length ≤ 4 := by simp [newMem]; omega
  rw [e]
  refine G.take1 TableR b ?_
  try simp (maxSteps := 2000000) only [↓RG, RP, true_and, and_true, beq_true, beq_false, Bool.true_beq, Bool.false_beq, BEq.rfl, Int.reduceEq, Int.reduceLT, Int.reduceLE, Nat.reduceEqDiff, decide_true, decide_false, Bool.not_true, Bool.not_false, Bool.and_true, Bool.true_and, Bool.and_false, Bool.false_and, Bool.or_true, Bool.true_or, Bool.or_false, Bool.false_or, Bool.not_not]
  refine s_law3_do (m := newMem ⟨0, n, wd, 0, 0⟩) hl1 (by omega) fun m1 h1 => ?_
  have g1 := h1.l
  have g2 := h1.w
  have g3 := h1.s
  try simp (maxSteps := 2000000) only [↓RG, RP, true_and, and_true, beq_true, beq_false, Bool.true_beq, Bool.false_beq, BEq.rfl, Int.reduceEq, Int.reduceLT, Int.reduceLE, Nat.reduceEqDiff, decide_true, decide_false, Bool.not_true, Bool.not_false, Bool.and_true, Bool.true_and, Bool.and_false, Bool.false_and, Bool.or_true, Bool.true_or, Bool.or_false, Bool.false_or, Bool.not_not]
  refine s_stripe_Table_Copy (ls := m1.l) (by omega) fun b2 => ?_
  refine s_ref1_Mem_Copy (m := m1) ⟨by omega, by omega, by omega⟩ fun c2 => ?_
  refine G.take1 RMemR c2 ?_
  refine G.take1 TableR b2 ?_
  try simp (maxSteps := 2000000) only [↓RG, RP, true_and, and_true, beq_true, beq_false, Bool.true_beq, Bool.false_beq, BEq.rfl, Int.reduceEq, Int.reduceLT, Int.reduceLE, Nat.reduceEqDiff, decide_true, decide_false, Bool.not_true, Bool.not_false, Bool.and_true, Bool.true_and, Bool.and_false, Bool.false_and, Bool.or_true, Bool.true_or, Bool.or_false, Bool.false_or, Bool.not_not]
  refine s_law3_do (m := m1) (by omega) (by omega) fun m2 h2 => ?_
  have g4 := h2.l
  have g5 := h2.w
  try simp (maxSteps := 2000000) only [↓RG, RP, true_and, and_true, beq_true, beq_false, Bool.true_beq, Bool.false_beq, BEq.rfl, Int.reduceEq, Int.reduceLT, Int.reduceLE, Nat.reduceEqDiff, decide_true, decide_false, Bool.not_true, Bool.not_false, Bool.and_true, Bool.true_and, Bool.and_false, Bool.false_and, Bool.or_true, Bool.true_or, Bool.or_false, Bool.false_or, Bool.not_not]
  refine G.take1 RMemR c ?_
  refine G.take1 TableR b ?_
  refine s_law3_do (m := m1) (by omega) (by omega) fun m3 h3 => ?_
  have g6 := h3.l
  try simp (maxSteps := 2000000) only [↓RG, RP, true_and, and_true, beq_true, beq_false, Bool.true_beq, Bool.false_beq, BEq.rfl, Int.reduceEq, Int.reduceLT, Int.reduceLE, Nat.reduceEqDiff, decide_true, decide_false, Bool.not_true, Bool.not_false, Bool.and_true, Bool.true_and, Bool.and_false, Bool.false_and, Bool.or_true, Bool.true_or, Bool.or_false, Bool.false_or, Bool.not_not]
  refine G.take1 RMemR c2 ?_
  refine G.take1 TableR b2 ?_
  refine s_law3_same (m := m2) (by omega) ?_
  try simp (maxSteps := 2000000) only [↓RG, RP, true_and, and_true, beq_true, beq_false, Bool.true_beq, Bool.false_beq, BEq.rfl, Int.reduceEq, Int.reduceLT, Int.reduceLE, Nat.reduceEqDiff, decide_true, decide_false, Bool.not_true, Bool.not_false, Bool.and_true, Bool.true_and, Bool.and_false, Bool.false_and, Bool.or_true, Bool.true_or, Bool.or_false, Bool.false_or, Bool.not_not]
  refine s_stripe_Table_Of (ls := m2.l) ?_
  try simp (maxSteps := 2000000) only [↓RG, RP, true_and, and_true, beq_true, beq_false, Bool.true_beq, Bool.false_beq, BEq.rfl, Int.reduceEq, Int.reduceLT, Int.reduceLE, Nat.reduceEqDiff, decide_true, decide_false, Bool.not_true, Bool.not_false, Bool.and_true, Bool.true_and, Bool.and_false, Bool.false_and, Bool.or_true, Bool.true_or, Bool.or_false, Bool.false_or, Bool.not_not]
  refine s_stripe_Table_Of (ls := m3.l) ?_
  rw [show m2.l.length = m3.l.length by omega]
  try simp (maxSteps := 2000000) only [↓RG, RP, true_and, and_true, beq_true, beq_false, Bool.true_beq, Bool.false_beq, BEq.rfl, Int.reduceEq, Int.reduceLT, Int.reduceLE, Nat.reduceEqDiff, decide_true, decide_false, Bool.not_true, Bool.not_false, Bool.and_true, Bool.true_and, Bool.and_false, Bool.false_and, Bool.or_true, Bool.true_or, Bool.or_false, Bool.false_or, Bool.not_not]
  exact hK.sub

end
end Go.Proofs.Ytaghnmllaghcbaa.S
