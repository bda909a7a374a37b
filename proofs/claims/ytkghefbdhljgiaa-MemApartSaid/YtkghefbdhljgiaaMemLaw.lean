/-
  CHAPTER 6: the statements' own functions.
-/
import Derived.Test.YtkghefbdhljgiaaMem
namespace Go.Proofs.Ytkghefbdhljgiaa.S
open Go Go.Proofs
set_option linter.unusedVariables false
set_option linter.unusedSimpArgs false

section
variable {w0 : Base} {L M : List Asn} {K : KV} {F : World → Prop} {C : Asn → List Asn} {b c : Nat} {m : MemS}

/-- few enough to be counted -/
def Few (m : MemS) : Prop := m.w.length ≤ 1000 ∧ m.l.length ≤ 1000 ∧ m.s.length ≤ 1000
theorem Few.same {m m' : MemS} (h : Few m) (h' : SameLen m m') : Few m' := ⟨by rw [h'.w]; exact h.1, by rw [h'.l]; exact h.2.1, by rw [h'.s]; exact h.2.2⟩
theorem newMem_few (s : TShape) : Few (newMem s) := by
  have h1 := held_le (n := s.words) (show (32 : Int) ≤ 256 by omega)
  have h2 := held_le (n := s.stripes) (show (1 : Int) ≤ 16 by omega)
  have h3 := held_le (n := s.threads) (show (1 : Int) ≤ 4 by omega)
  refine ⟨?_, ?_, ?_⟩ <;> simp only [newMem, List.length_replicate] <;> omega

set_option maxRecDepth 20000 in
set_option maxHeartbeats 4000000 in
theorem s_law6_MemRuns (hK : G w0 L (K (.bool true))) : G w0 L (CP Try.prog Fn.law6_MemRuns [] K) := by
  refine C_law6_MemRuns ?_
  unfold S_law6_MemRuns
  try simp (maxSteps := 2000000) only [fuse_and, fuse_or, fuse_step, fuse_pair, fuse_in, andP_true]
  try simp (maxSteps := 2000000) only [↓RG, RP, true_and, and_true, beq_true, beq_false, Bool.true_beq, Bool.false_beq, BEq.rfl, Int.reduceEq, Int.reduceLT, Int.reduceLE, Nat.reduceEqDiff, decide_true, decide_false, Bool.not_true, Bool.not_false, Bool.and_true, Bool.true_and, Bool.and_false, Bool.false_and, Bool.or_true, Bool.true_or, Bool.or_false, Bool.false_or, Bool.not_not]
  refine s_mem_New (s := ⟨40, 4, 2, 2, 9⟩) fun b => ?_
  obtain ⟨m0, hm0⟩ : ∃ m, newMem ⟨40, 4, 2, 2, 9⟩ = m := ⟨_, rfl⟩
  rw [hm0]
  try simp (maxSteps := 2000000) only [↓RG, RP, true_and, and_true, beq_true, beq_false, Bool.true_beq, Bool.false_beq, BEq.rfl, Int.reduceEq, Int.reduceLT, Int.reduceLE, Nat.reduceEqDiff, decide_true, decide_false, Bool.not_true, Bool.not_false, Bool.and_true, Bool.true_and, Bool.and_false, Bool.false_and, Bool.or_true, Bool.true_or, Bool.or_false, Bool.false_or, Bool.not_not]
  refine s_mem_Mem_Do' (m := m0) ?_
  obtain ⟨m1, hm1⟩ : ∃ m, (memDo m0 ⟨4, 1, 0, 0, ⟨3, false, 0⟩, ⟨0, false, 0⟩⟩).1 = m := ⟨_, rfl⟩
  have ha1 : (memDo m0 ⟨4, 1, 0, 0, ⟨3, false, 0⟩, ⟨0, false, 0⟩⟩).2 = ⟨0, ⟨0, false, 0⟩, false, 0⟩ := by rw [← hm0]; rfl
  rw [hm1, ha1]
  try simp (maxSteps := 2000000) only [↓RG, RP, true_and, and_true, beq_true, beq_false, Bool.true_beq, Bool.false_beq, BEq.rfl, Int.reduceEq, Int.reduceLT, Int.reduceLE, Nat.reduceEqDiff, decide_true, decide_false, Bool.not_true, Bool.not_false, Bool.and_true, Bool.true_and, Bool.and_false, Bool.false_and, Bool.or_true, Bool.true_or, Bool.or_false, Bool.false_or, Bool.not_not]
  refine G.new fun p1 => ?_
  try simp (maxSteps := 2000000) only [↓RG, RP, true_and, and_true, beq_true, beq_false, Bool.true_beq, Bool.false_beq, BEq.rfl, Int.reduceEq, Int.reduceLT, Int.reduceLE, Nat.reduceEqDiff, decide_true, decide_false, Bool.not_true, Bool.not_false, Bool.and_true, Bool.true_and, Bool.and_false, Bool.false_and, Bool.or_true, Bool.true_or, Bool.or_false, Bool.false_or, Bool.not_not]
  refine s_mem_Mem_Do' (m := m1) ?_
  obtain ⟨m2, hm2⟩ : ∃ m, (memDo m1 ⟨1, 0, 0, 0, ⟨0, false, 0⟩, ⟨0, false, 0⟩⟩).1 = m := ⟨_, rfl⟩
  have ha2 : (memDo m1 ⟨1, 0, 0, 0, ⟨0, false, 0⟩, ⟨0, false, 0⟩⟩).2 = ⟨0, ⟨0, false, 0⟩, false, 2⟩ := by rw [← hm1, ← hm0]; rfl
  rw [hm2, ha2]
  try simp (maxSteps := 2000000) only [↓RG, RP, true_and, and_true, beq_true, beq_false, Bool.true_beq, Bool.false_beq, BEq.rfl, Int.reduceEq, Int.reduceLT, Int.reduceLE, Nat.reduceEqDiff, decide_true, decide_false, Bool.not_true, Bool.not_false, Bool.and_true, Bool.true_and, Bool.and_false, Bool.false_and, Bool.or_true, Bool.true_or, Bool.or_false, Bool.false_or, Bool.not_not]
  refine G.new fun p2 => ?_
  try simp (maxSteps := 2000000) only [↓RG, RP, true_and, and_true, beq_true, beq_false, Bool.true_beq, Bool.false_beq, BEq.rfl, Int.reduceEq, Int.reduceLT, Int.reduceLE, Nat.reduceEqDiff, decide_true, decide_false, Bool.not_true, Bool.not_false, Bool.and_true, Bool.true_and, Bool.and_false, Bool.false_and, Bool.or_true, Bool.true_or, Bool.or_false, Bool.false_or, Bool.not_not]
  refine s_mem_Mem_Do' (m := m2) ?_
  obtain ⟨m3, hm3⟩ : ∃ m, (memDo m2 ⟨2, 7, 0, 5, ⟨0, false, 0⟩, ⟨0, false, 0⟩⟩).1 = m := ⟨_, rfl⟩
  have ha3 : (memDo m2 ⟨2, 7, 0, 5, ⟨0, false, 0⟩, ⟨0, false, 0⟩⟩).2 = ⟨0, ⟨0, false, 0⟩, false, 0⟩ := by rw [← hm2, ← hm1, ← hm0]; rfl
  rw [hm3, ha3]
  try simp (maxSteps := 2000000) only [↓RG, RP, true_and, and_true, beq_true, beq_false, Bool.true_beq, Bool.false_beq, BEq.rfl, Int.reduceEq, Int.reduceLT, Int.reduceLE, Nat.reduceEqDiff, decide_true, decide_false, Bool.not_true, Bool.not_false, Bool.and_true, Bool.true_and, Bool.and_false, Bool.false_and, Bool.or_true, Bool.true_or, Bool.or_false, Bool.false_or, Bool.not_not]
  refine G.new fun p3 => ?_
  try simp (maxSteps := 2000000) only [↓RG, RP, true_and, and_true, beq_true, beq_false, Bool.true_beq, Bool.false_beq, BEq.rfl, Int.reduceEq, Int.reduceLT, Int.reduceLE, Nat.reduceEqDiff, decide_true, decide_false, Bool.not_true, Bool.not_false, Bool.and_true, Bool.true_and, Bool.and_false, Bool.false_and, Bool.or_true, Bool.true_or, Bool.or_false, Bool.false_or, Bool.not_not]
  refine s_mem_Mem_Do' (m := m3) ?_
  obtain ⟨m4, hm4⟩ : ∃ m, (memDo m3 ⟨1, 7, 0, 0, ⟨0, false, 0⟩, ⟨0, false, 0⟩⟩).1 = m := ⟨_, rfl⟩
  have ha4 : (memDo m3 ⟨1, 7, 0, 0, ⟨0, false, 0⟩, ⟨0, false, 0⟩⟩).2 = ⟨5, ⟨0, false, 0⟩, false, 0⟩ := by rw [← hm3, ← hm2, ← hm1, ← hm0]; rfl
  rw [hm4, ha4]
  try simp (maxSteps := 2000000) only [↓RG, RP, true_and, and_true, beq_true, beq_false, Bool.true_beq, Bool.false_beq, BEq.rfl, Int.reduceEq, Int.reduceLT, Int.reduceLE, Nat.reduceEqDiff, decide_true, decide_false, Bool.not_true, Bool.not_false, Bool.and_true, Bool.true_and, Bool.and_false, Bool.false_and, Bool.or_true, Bool.true_or, Bool.or_false, Bool.false_or, Bool.not_not]
  refine G.new fun p4 => ?_
  try simp (maxSteps := 2000000) only [↓RG, RP, true_and, and_true, beq_true, beq_false, Bool.true_beq, Bool.false_beq, BEq.rfl, Int.reduceEq, Int.reduceLT, Int.reduceLE, Nat.reduceEqDiff, decide_true, decide_false, Bool.not_true, Bool.not_false, Bool.and_true, Bool.true_and, Bool.and_false, Bool.false_and, Bool.or_true, Bool.true_or, Bool.or_false, Bool.false_or, Bool.not_not]
  have c1 : m4.count = 3 := by rw [← hm4, ← hm3, ← hm2, ← hm1, ← hm0]; rfl
  have c2 : m4.n = 9 := by rw [← hm4, ← hm3, ← hm2, ← hm1, ← hm0]; rfl
  have c3 : stripeOf 7 m4.l.length m4.shape.wide = 3 := by rw [← hm4, ← hm3, ← hm2, ← hm1, ← hm0]; rfl
  have c4 : (m4.w.length : Int) = 40 := by rw [← hm4, ← hm3, ← hm2, ← hm1, ← hm0]; rfl
  have c5 : (m4.l.length : Int) = 4 := by rw [← hm4, ← hm3, ← hm2, ← hm1, ← hm0]; rfl
  have c6 : (m4.s.length : Int) = 2 := by rw [← hm4, ← hm3, ← hm2, ← hm1, ← hm0]; rfl
  repeat' (first | (with_reducible refine G.joini0 ?_) | (with_reducible refine G.joini1 ?_) | (with_reducible refine G.drew ?_) | (simp (maxSteps := 2000000) only [↓RG, RP, true_and, and_true, beq_true, beq_false, Bool.true_beq, Bool.false_beq, BEq.rfl, Int.reduceEq, Int.reduceLT, Int.reduceLE, Nat.reduceEqDiff, decide_true, decide_false, Bool.not_true, Bool.not_false, Bool.and_true, Bool.true_and, Bool.and_false, Bool.false_and, Bool.or_true, Bool.true_or, Bool.or_false, Bool.false_or, Bool.not_not]))
  refine s_mem_Mem_Count (m := m4) ?_
  try simp (maxSteps := 2000000) only [↓RG, RP, true_and, and_true, beq_true, beq_false, Bool.true_beq, Bool.false_beq, BEq.rfl, Int.reduceEq, Int.reduceLT, Int.reduceLE, Nat.reduceEqDiff, decide_true, decide_false, Bool.not_true, Bool.not_false, Bool.and_true, Bool.true_and, Bool.and_false, Bool.false_and, Bool.or_true, Bool.true_or, Bool.or_false, Bool.false_or, Bool.not_not, c1]
  refine s_mem_Mem_Now (m := m4) ?_
  try simp (maxSteps := 2000000) only [↓RG, RP, true_and, and_true, beq_true, beq_false, Bool.true_beq, Bool.false_beq, BEq.rfl, Int.reduceEq, Int.reduceLT, Int.reduceLE, Nat.reduceEqDiff, decide_true, decide_false, Bool.not_true, Bool.not_false, Bool.and_true, Bool.true_and, Bool.and_false, Bool.false_and, Bool.or_true, Bool.true_or, Bool.or_false, Bool.false_or, Bool.not_not, c2]
  refine s_mem_Mem_Stripe (m := m4) ?_
  try simp (maxSteps := 2000000) only [↓RG, RP, true_and, and_true, beq_true, beq_false, Bool.true_beq, Bool.false_beq, BEq.rfl, Int.reduceEq, Int.reduceLT, Int.reduceLE, Nat.reduceEqDiff, decide_true, decide_false, Bool.not_true, Bool.not_false, Bool.and_true, Bool.true_and, Bool.and_false, Bool.false_and, Bool.or_true, Bool.true_or, Bool.or_false, Bool.false_or, Bool.not_not, c3]
  refine s_mem_Mem_Words (m := m4) (by omega) fun u1 hu1 => ?_
  try simp (maxSteps := 2000000) only [↓RG, RP, true_and, and_true, beq_true, beq_false, Bool.true_beq, Bool.false_beq, BEq.rfl, Int.reduceEq, Int.reduceLT, Int.reduceLE, Nat.reduceEqDiff, decide_true, decide_false, Bool.not_true, Bool.not_false, Bool.and_true, Bool.true_and, Bool.and_false, Bool.false_and, Bool.or_true, Bool.true_or, Bool.or_false, Bool.false_or, Bool.not_not, c4]
  refine s_mem_Mem_Locks (m := m4) (by omega) fun u2 hu2 => ?_
  try simp (maxSteps := 2000000) only [↓RG, RP, true_and, and_true, beq_true, beq_false, Bool.true_beq, Bool.false_beq, BEq.rfl, Int.reduceEq, Int.reduceLT, Int.reduceLE, Nat.reduceEqDiff, decide_true, decide_false, Bool.not_true, Bool.not_false, Bool.and_true, Bool.true_and, Bool.and_false, Bool.false_and, Bool.or_true, Bool.true_or, Bool.or_false, Bool.false_or, Bool.not_not, c5]
  refine s_mem_Mem_Slots (m := m4) (by omega) fun u3 hu3 => ?_
  try simp (maxSteps := 2000000) only [↓RG, RP, true_and, and_true, beq_true, beq_false, Bool.true_beq, Bool.false_beq, BEq.rfl, Int.reduceEq, Int.reduceLT, Int.reduceLE, Nat.reduceEqDiff, decide_true, decide_false, Bool.not_true, Bool.not_false, Bool.and_true, Bool.true_and, Bool.and_false, Bool.false_and, Bool.or_true, Bool.true_or, Bool.or_false, Bool.false_or, Bool.not_not, c6]
  refine s_mem_Mem_Copy (m := m4) ⟨by omega, by omega, by omega⟩ fun b2 => ?_
  try simp (maxSteps := 2000000) only [↓RG, RP, true_and, and_true, beq_true, beq_false, Bool.true_beq, Bool.false_beq, BEq.rfl, Int.reduceEq, Int.reduceLT, Int.reduceLE, Nat.reduceEqDiff, decide_true, decide_false, Bool.not_true, Bool.not_false, Bool.and_true, Bool.true_and, Bool.and_false, Bool.false_and, Bool.or_true, Bool.true_or, Bool.or_false, Bool.false_or, Bool.not_not]
  exact hK.sub

set_option maxRecDepth 20000 in
set_option maxHeartbeats 4000000 in
theorem s_law6_near {o : TOp} {raw : Bool} (hf : Few m) [i : SelOb L RMemR c m C] (hK : ∀ y : TOp, G w0 L (K (.agg (TOp.cells y).toArray))) : G w0 L (CP Try.prog Fn.law6_near [.agg (TOp.cells o).toArray, ptr c 0, .bool raw] K) := by
  refine i.roN (N := fun _ => emp) (P := fun _ => True) (F' := fun y : TOp => K (.agg (TOp.cells y).toArray)) (fun M hK => ?_) (fun y _ => by rw [G_emp]; exact hK y)
  have hK : ∀ y : TOp, G w0 (ob RMemR c m :: M) (K (.agg (TOp.cells y).toArray)) := fun y => by have := hK y trivial; rwa [G_emp] at this
  obtain ⟨hf1, hf2, hf3⟩ := hf
  refine C_law6_near ?_
  unfold S_law6_near
  try simp (maxSteps := 2000000) only [fuse_and, fuse_or, fuse_step, fuse_pair, fuse_in, andP_true]
  refine G.box fun p => ?_
  refine G.new fun q => ?_
  try simp (maxSteps := 2000000) only [↓RG, RP, true_and, and_true, beq_true, beq_false, Bool.true_beq, Bool.false_beq, BEq.rfl, Int.reduceEq, Int.reduceLT, Int.reduceLE, Nat.reduceEqDiff, decide_true, decide_false, Bool.not_true, Bool.not_false, Bool.and_true, Bool.true_and, Bool.and_false, Bool.false_and, Bool.or_true, Bool.true_or, Bool.or_false, Bool.false_or, Bool.not_not, Nat.reduceAdd]
  cases raw
  · try simp (maxSteps := 2000000) only [↓RG, RP, true_and, and_true, beq_true, beq_false, Bool.true_beq, Bool.false_beq, BEq.rfl, Int.reduceEq, Int.reduceLT, Int.reduceLE, Nat.reduceEqDiff, decide_true, decide_false, Bool.not_true, Bool.not_false, Bool.and_true, Bool.true_and, Bool.and_false, Bool.false_and, Bool.or_true, Bool.true_or, Bool.or_false, Bool.false_or, Bool.not_not, Nat.reduceAdd]
    refine s_book_Within (by omega) (by omega) (by omega) (by omega) ?_
    generalize within o.kind 1 9 = kd
    try simp (maxSteps := 2000000) only [↓RG, RP, true_and, and_true, beq_true, beq_false, Bool.true_beq, Bool.false_beq, BEq.rfl, Int.reduceEq, Int.reduceLT, Int.reduceLE, Nat.reduceEqDiff, decide_true, decide_false, Bool.not_true, Bool.not_false, Bool.and_true, Bool.true_and, Bool.and_false, Bool.false_and, Bool.or_true, Bool.true_or, Bool.or_false, Bool.false_or, Bool.not_not, Nat.reduceAdd]
    rw [G_rot3, RMemR_open]
    intro vw vl vs hh
    refine G.join1 (σ := Bool) (fun t => .bool t) (fun _ => own p (TOp.cells { o with kind := kd }) :: own q [i64 0, i64 0, u64 0, u64 0, u64 0, .bool false, i64 0, u64 0, .bool false, i64 0] :: own c [i64 m.shape.words, i64 m.shape.stripes, i64 m.shape.wide, i64 m.shape.threads, u64 m.shape.start, vw, vl, u64 m.n, vs, i64 m.count] :: sl wordE vw m.w :: sl tLockE vl m.l :: sl wordE vs m.s :: M) (fun _ => True) (fun t _ => ?_) (fun J hJ => ?_)
    · refine G.join0 (σ := TOp) (fun y => own p (TOp.cells y) :: own q [i64 0, i64 0, u64 0, u64 0, u64 0, .bool false, i64 0, u64 0, .bool false, i64 0] :: own c [i64 m.shape.words, i64 m.shape.stripes, i64 m.shape.wide, i64 m.shape.threads, u64 m.shape.start, vw, vl, u64 m.n, vs, i64 m.count] :: sl wordE vw m.w :: sl tLockE vl m.l :: sl wordE vs m.s :: M) (fun _ => True) (fun y _ => ?_) (fun J hJ => ?_)
      · try simp (maxSteps := 2000000) only [↓RG, RP, true_and, and_true, beq_true, beq_false, Bool.true_beq, Bool.false_beq, BEq.rfl, Int.reduceEq, Int.reduceLT, Int.reduceLE, Nat.reduceEqDiff, decide_true, decide_false, Bool.not_true, Bool.not_false, Bool.and_true, Bool.true_and, Bool.and_false, Bool.false_and, Bool.or_true, Bool.true_or, Bool.or_false, Bool.false_or, Bool.not_not]
        refine RMemR_close c m hh ?_
        exact (hK y).sub
      · refine G.cond (fun h => ?_) (fun h => ?_)
        · repeat' (first | (with_reducible refine G.joini0 ?_) | (with_reducible refine G.joini1 ?_) | (with_reducible refine G.drew ?_) | (simp (maxSteps := 2000000) only [↓RG, RP, true_and, and_true, beq_true, beq_false, Bool.true_beq, Bool.false_beq, BEq.rfl, Int.reduceEq, Int.reduceLT, Int.reduceLE, Nat.reduceEqDiff, decide_true, decide_false, Bool.not_true, Bool.not_false, Bool.and_true, Bool.true_and, Bool.and_false, Bool.false_and, Bool.or_true, Bool.true_or, Bool.or_false, Bool.false_or, Bool.not_not, Nat.reduceAdd]))
          refine s_book_Within (by omega) (by omega) (by omega) (by omega) ?_
          repeat' (first | (with_reducible refine G.joini0 ?_) | (with_reducible refine G.joini1 ?_) | (with_reducible refine G.drew ?_) | (simp (maxSteps := 2000000) only [↓RG, RP, true_and, and_true, beq_true, beq_false, Bool.true_beq, Bool.false_beq, BEq.rfl, Int.reduceEq, Int.reduceLT, Int.reduceLE, Nat.reduceEqDiff, decide_true, decide_false, Bool.not_true, Bool.not_false, Bool.and_true, Bool.true_and, Bool.and_false, Bool.false_and, Bool.or_true, Bool.true_or, Bool.or_false, Bool.false_or, Bool.not_not, Nat.reduceAdd]))
          exact (hJ { o with kind := kd, place := within o.place 0 m.w.length } trivial).sub
        · try simp (maxSteps := 2000000) only [↓RG, RP, true_and, and_true, beq_true, beq_false, Bool.true_beq, Bool.false_beq, BEq.rfl, Int.reduceEq, Int.reduceLT, Int.reduceLE, Nat.reduceEqDiff, decide_true, decide_false, Bool.not_true, Bool.not_false, Bool.and_true, Bool.true_and, Bool.and_false, Bool.false_and, Bool.or_true, Bool.true_or, Bool.or_false, Bool.false_or, Bool.not_not]
          refine G.join1 (σ := Bool) (fun t => .bool t) (fun _ => own p (TOp.cells { o with kind := kd }) :: own q [i64 0, i64 0, u64 0, u64 0, u64 0, .bool false, i64 0, u64 0, .bool false, i64 0] :: own c [i64 m.shape.words, i64 m.shape.stripes, i64 m.shape.wide, i64 m.shape.threads, u64 m.shape.start, vw, vl, u64 m.n, vs, i64 m.count] :: sl wordE vw m.w :: sl tLockE vl m.l :: sl wordE vs m.s :: M) (fun _ => True) (fun t2 _ => ?_) (fun J2 hJ2 => ?_)
          · refine G.joini0 ?_
            refine G.cond (fun h => ?_) (fun h => ?_)
            · repeat' (first | (with_reducible refine G.joini0 ?_) | (with_reducible refine G.joini1 ?_) | (with_reducible refine G.drew ?_) | (simp (maxSteps := 2000000) only [↓RG, RP, true_and, and_true, beq_true, beq_false, Bool.true_beq, Bool.false_beq, BEq.rfl, Int.reduceEq, Int.reduceLT, Int.reduceLE, Nat.reduceEqDiff, decide_true, decide_false, Bool.not_true, Bool.not_false, Bool.and_true, Bool.true_and, Bool.and_false, Bool.false_and, Bool.or_true, Bool.true_or, Bool.or_false, Bool.false_or, Bool.not_not, Nat.reduceAdd]))
              refine s_book_Within (by omega) (by omega) (by omega) (by omega) ?_
              repeat' (first | (with_reducible refine G.joini0 ?_) | (with_reducible refine G.joini1 ?_) | (with_reducible refine G.drew ?_) | (simp (maxSteps := 2000000) only [↓RG, RP, true_and, and_true, beq_true, beq_false, Bool.true_beq, Bool.false_beq, BEq.rfl, Int.reduceEq, Int.reduceLT, Int.reduceLE, Nat.reduceEqDiff, decide_true, decide_false, Bool.not_true, Bool.not_false, Bool.and_true, Bool.true_and, Bool.and_false, Bool.false_and, Bool.or_true, Bool.true_or, Bool.or_false, Bool.false_or, Bool.not_not, Nat.reduceAdd]))
              exact (hJ { o with kind := kd, place := within o.place (-1) m.s.length } trivial).sub
            · try simp (maxSteps := 2000000) only [↓RG, RP, true_and, and_true, beq_true, beq_false, Bool.true_beq, Bool.false_beq, BEq.rfl, Int.reduceEq, Int.reduceLT, Int.reduceLE, Nat.reduceEqDiff, decide_true, decide_false, Bool.not_true, Bool.not_false, Bool.and_true, Bool.true_and, Bool.and_false, Bool.false_and, Bool.or_true, Bool.true_or, Bool.or_false, Bool.false_or, Bool.not_not]
              refine G.joini0 ?_
              refine G.cond (fun h => ?_) (fun h => ?_)
              · repeat' (first | (with_reducible refine G.joini0 ?_) | (with_reducible refine G.joini1 ?_) | (with_reducible refine G.drew ?_) | (simp (maxSteps := 2000000) only [↓RG, RP, true_and, and_true, beq_true, beq_false, Bool.true_beq, Bool.false_beq, BEq.rfl, Int.reduceEq, Int.reduceLT, Int.reduceLE, Nat.reduceEqDiff, decide_true, decide_false, Bool.not_true, Bool.not_false, Bool.and_true, Bool.true_and, Bool.and_false, Bool.false_and, Bool.or_true, Bool.true_or, Bool.or_false, Bool.false_or, Bool.not_not, Nat.reduceAdd]))
                exact (hJ { o with kind := kd, old := IntKind.wrap .u64 (m.n - o.old.tmod 2), word := IntKind.wrap .u64 (IntKind.wrap .u64 (m.n - o.old.tmod 2) + o.word.tmod 3) } trivial).sub
              · repeat' (first | (with_reducible refine G.joini0 ?_) | (with_reducible refine G.joini1 ?_) | (with_reducible refine G.drew ?_) | (simp (maxSteps := 2000000) only [↓RG, RP, true_and, and_true, beq_true, beq_false, Bool.true_beq, Bool.false_beq, BEq.rfl, Int.reduceEq, Int.reduceLT, Int.reduceLE, Nat.reduceEqDiff, decide_true, decide_false, Bool.not_true, Bool.not_false, Bool.and_true, Bool.true_and, Bool.and_false, Bool.false_and, Bool.or_true, Bool.true_or, Bool.or_false, Bool.false_or, Bool.not_not, Nat.reduceAdd]))
                refine s_book_Within (by omega) (by omega) (by omega) (by omega) ?_
                repeat' (first | (with_reducible refine G.joini0 ?_) | (with_reducible refine G.joini1 ?_) | (with_reducible refine G.drew ?_) | (simp (maxSteps := 2000000) only [↓RG, RP, true_and, and_true, beq_true, beq_false, Bool.true_beq, Bool.false_beq, BEq.rfl, Int.reduceEq, Int.reduceLT, Int.reduceLE, Nat.reduceEqDiff, decide_true, decide_false, Bool.not_true, Bool.not_false, Bool.and_true, Bool.true_and, Bool.and_false, Bool.false_and, Bool.or_true, Bool.true_or, Bool.or_false, Bool.false_or, Bool.not_not, Nat.reduceAdd]))
                refine s_book_Within (by omega) (by omega) (by omega) (by omega) ?_
                generalize within o.place (-1) m.l.length = pl
                repeat' (first | (with_reducible refine G.joini0 ?_) | (with_reducible refine G.joini1 ?_) | (with_reducible refine G.drew ?_) | (simp (maxSteps := 2000000) only [↓RG, RP, true_and, and_true, beq_true, beq_false, Bool.true_beq, Bool.false_beq, BEq.rfl, Int.reduceEq, Int.reduceLT, Int.reduceLE, Nat.reduceEqDiff, decide_true, decide_false, Bool.not_true, Bool.not_false, Bool.and_true, Bool.true_and, Bool.and_false, Bool.false_and, Bool.or_true, Bool.true_or, Bool.or_false, Bool.false_or, Bool.not_not, Nat.reduceAdd]))
                refine G.cond (fun hq => ?_) (fun hq => ?_)
                · repeat' (first | (with_reducible refine G.joini0 ?_) | (with_reducible refine G.joini1 ?_) | (with_reducible refine G.drew ?_) | (simp (maxSteps := 2000000) only [↓RG, RP, true_and, and_true, beq_true, beq_false, Bool.true_beq, Bool.false_beq, BEq.rfl, Int.reduceEq, Int.reduceLT, Int.reduceLE, Nat.reduceEqDiff, decide_true, decide_false, Bool.not_true, Bool.not_false, Bool.and_true, Bool.true_and, Bool.and_false, Bool.false_and, Bool.or_true, Bool.true_or, Bool.or_false, Bool.false_or, Bool.not_not, Nat.reduceAdd]))
                  refine G.all (decide (0 ≤ pl)) (fun _ K hK => by try simp (maxSteps := 2000000) only [↓RG, RP, true_and, and_true, beq_true, beq_false, Bool.true_beq, Bool.false_beq, BEq.rfl, Int.reduceEq, Int.reduceLT, Int.reduceLE, Nat.reduceEqDiff, decide_true, decide_false, Bool.not_true, Bool.not_false, Bool.and_true, Bool.true_and, Bool.and_false, Bool.false_and, Bool.or_true, Bool.true_or, Bool.or_false, Bool.false_or, Bool.not_not]; exact hK) ?_
                  refine G.all (decide (pl < m.l.length)) (fun _ K hK => by try simp (maxSteps := 2000000) only [↓RG, RP, true_and, and_true, beq_true, beq_false, Bool.true_beq, Bool.false_beq, BEq.rfl, Int.reduceEq, Int.reduceLT, Int.reduceLE, Nat.reduceEqDiff, decide_true, decide_false, Bool.not_true, Bool.not_false, Bool.and_true, Bool.true_and, Bool.and_false, Bool.false_and, Bool.or_true, Bool.true_or, Bool.or_false, Bool.false_or, Bool.not_not]; exact hK) ?_
                  refine G.joini0 ?_
                  refine G.cond (fun h2 => ?_) (fun h2 => ?_)
                  · obtain ⟨j, hj, hjl⟩ : ∃ j : Nat, pl = j ∧ j < m.l.length := by
                      simp at h2; exact ⟨pl.toNat, by omega, by omega⟩
                    have ix : IxI pl j := ⟨hj⟩
                    have e := elem_of hjl
                    repeat' (first | (with_reducible refine G.joini0 ?_) | (with_reducible refine G.joini1 ?_) | (with_reducible refine G.drew ?_) | (simp (maxSteps := 2000000) only [↓RG, RP, true_and, and_true, beq_true, beq_false, Bool.true_beq, Bool.false_beq, BEq.rfl, Int.reduceEq, Int.reduceLT, Int.reduceLE, Nat.reduceEqDiff, decide_true, decide_false, Bool.not_true, Bool.not_false, Bool.and_true, Bool.true_and, Bool.and_false, Bool.false_and, Bool.or_true, Bool.true_or, Bool.or_false, Bool.false_or, Bool.not_not, Nat.reduceAdd]))
                    exact (hJ ⟨kd, pl, o.old, o.word, m.l[j], ⟨o.lock.version.tmod 9, o.lock.held, 0⟩⟩ trivial).sub
                  · exact (hJ ⟨kd, pl, o.old, o.word, o.was, ⟨o.lock.version.tmod 9, o.lock.held, 0⟩⟩ trivial).sub
                · repeat' (first | (with_reducible refine G.joini0 ?_) | (with_reducible refine G.joini1 ?_) | (with_reducible refine G.drew ?_) | (simp (maxSteps := 2000000) only [↓RG, RP, true_and, and_true, beq_true, beq_false, Bool.true_beq, Bool.false_beq, BEq.rfl, Int.reduceEq, Int.reduceLT, Int.reduceLE, Nat.reduceEqDiff, decide_true, decide_false, Bool.not_true, Bool.not_false, Bool.and_true, Bool.true_and, Bool.and_false, Bool.false_and, Bool.or_true, Bool.true_or, Bool.or_false, Bool.false_or, Bool.not_not, Nat.reduceAdd]))
                  refine G.all (decide (0 ≤ pl)) (fun _ K hK => by try simp (maxSteps := 2000000) only [↓RG, RP, true_and, and_true, beq_true, beq_false, Bool.true_beq, Bool.false_beq, BEq.rfl, Int.reduceEq, Int.reduceLT, Int.reduceLE, Nat.reduceEqDiff, decide_true, decide_false, Bool.not_true, Bool.not_false, Bool.and_true, Bool.true_and, Bool.and_false, Bool.false_and, Bool.or_true, Bool.true_or, Bool.or_false, Bool.false_or, Bool.not_not]; exact hK) ?_
                  refine G.all (decide (pl < m.l.length)) (fun _ K hK => by try simp (maxSteps := 2000000) only [↓RG, RP, true_and, and_true, beq_true, beq_false, Bool.true_beq, Bool.false_beq, BEq.rfl, Int.reduceEq, Int.reduceLT, Int.reduceLE, Nat.reduceEqDiff, decide_true, decide_false, Bool.not_true, Bool.not_false, Bool.and_true, Bool.true_and, Bool.and_false, Bool.false_and, Bool.or_true, Bool.true_or, Bool.or_false, Bool.false_or, Bool.not_not]; exact hK) ?_
                  refine G.joini0 ?_
                  refine G.cond (fun h2 => ?_) (fun h2 => ?_)
                  · obtain ⟨j, hj, hjl⟩ : ∃ j : Nat, pl = j ∧ j < m.l.length := by
                      simp at h2; exact ⟨pl.toNat, by omega, by omega⟩
                    have ix : IxI pl j := ⟨hj⟩
                    have e := elem_of hjl
                    repeat' (first | (with_reducible refine G.joini0 ?_) | (with_reducible refine G.joini1 ?_) | (with_reducible refine G.drew ?_) | (simp (maxSteps := 2000000) only [↓RG, RP, true_and, and_true, beq_true, beq_false, Bool.true_beq, Bool.false_beq, BEq.rfl, Int.reduceEq, Int.reduceLT, Int.reduceLE, Nat.reduceEqDiff, decide_true, decide_false, Bool.not_true, Bool.not_false, Bool.and_true, Bool.true_and, Bool.and_false, Bool.false_and, Bool.or_true, Bool.true_or, Bool.or_false, Bool.false_or, Bool.not_not, Nat.reduceAdd]))
                    exact (hJ ⟨kd, pl, o.old, o.word, m.l[j], ⟨o.lock.version.tmod 9, o.lock.held, within o.lock.owner 0 4⟩⟩ trivial).sub
                  · exact (hJ ⟨kd, pl, o.old, o.word, o.was, ⟨o.lock.version.tmod 9, o.lock.held, within o.lock.owner 0 4⟩⟩ trivial).sub
          · refine G.cond (fun h => ?_) (fun h => ?_)
            · exact (hJ2 (decide (kd = 8)) trivial).sub
            · try simp (maxSteps := 2000000) only [↓RG, RP, true_and, and_true, beq_true, beq_false, Bool.true_beq, Bool.false_beq, BEq.rfl, Int.reduceEq, Int.reduceLT, Int.reduceLE, Nat.reduceEqDiff, decide_true, decide_false, Bool.not_true, Bool.not_false, Bool.and_true, Bool.true_and, Bool.and_false, Bool.false_and, Bool.or_true, Bool.true_or, Bool.or_false, Bool.false_or, Bool.not_not]
              exact (hJ2 (decide (kd = 9)) trivial).sub
    · refine G.cond (fun h => ?_) (fun h => ?_)
      · exact (hJ (decide (kd = 1)) trivial).sub
      · try simp (maxSteps := 2000000) only [↓RG, RP, true_and, and_true, beq_true, beq_false, Bool.true_beq, Bool.false_beq, BEq.rfl, Int.reduceEq, Int.reduceLT, Int.reduceLE, Nat.reduceEqDiff, decide_true, decide_false, Bool.not_true, Bool.not_false, Bool.and_true, Bool.true_and, Bool.and_false, Bool.false_and, Bool.or_true, Bool.true_or, Bool.or_false, Bool.false_or, Bool.not_not]
        exact (hJ (decide (kd = 2)) trivial).sub
  · try simp (maxSteps := 2000000) only [↓RG, RP, true_and, and_true, beq_true, beq_false, Bool.true_beq, Bool.false_beq, BEq.rfl, Int.reduceEq, Int.reduceLT, Int.reduceLE, Nat.reduceEqDiff, decide_true, decide_false, Bool.not_true, Bool.not_false, Bool.and_true, Bool.true_and, Bool.and_false, Bool.false_and, Bool.or_true, Bool.true_or, Bool.or_false, Bool.false_or, Bool.not_not, Nat.reduceAdd]
    exact (hK o).sub

theorem s_law6_same (hf : Few m) (hK : G w0 (ob MemR b m :: ob RMemR c m :: M) (K (.bool true))) : G w0 (ob MemR b m :: ob RMemR c m :: M) (CP Try.prog Fn.law6_same [ptr b 0, ptr c 0] K) := by
  obtain ⟨hf1, hf2, hf3⟩ := id hf
  refine C_law6_same ?_
  unfold S_law6_same
  try simp (maxSteps := 2000000) only [fuse_and, fuse_or, fuse_step, fuse_pair, fuse_in, andP_true]
  rw [G_swap, RMemR_open]
  intro vw vl vs hh
  repeat' (first | (with_reducible refine G.joini0 ?_) | (with_reducible refine G.joini1 ?_) | (with_reducible refine G.drew ?_) | (simp (maxSteps := 2000000) only [↓RG, RP, true_and, and_true, beq_true, beq_false, Bool.true_beq, Bool.false_beq, BEq.rfl, Int.reduceEq, Int.reduceLT, Int.reduceLE, Nat.reduceEqDiff, decide_true, decide_false, Bool.not_true, Bool.not_false, Bool.and_true, Bool.true_and, Bool.and_false, Bool.false_and, Bool.or_true, Bool.true_or, Bool.or_false, Bool.false_or, Bool.not_not]))
  refine s_mem_Mem_Words (m := m) (by omega) fun u hu => ?_
  try simp (maxSteps := 2000000) only [↓RG, RP, true_and, and_true, beq_true, beq_false, Bool.true_beq, Bool.false_beq, BEq.rfl, Int.reduceEq, Int.reduceLT, Int.reduceLE, Nat.reduceEqDiff, decide_true, decide_false, Bool.not_true, Bool.not_false, Bool.and_true, Bool.true_and, Bool.and_false, Bool.false_and, Bool.or_true, Bool.true_or, Bool.or_false, Bool.false_or, Bool.not_not]
  refine s_book_Same_uint64 (xs := m.w) (ys := m.w) (by omega) ?_
  try simp (maxSteps := 2000000) only [↓RG, RP, true_and, and_true, beq_true, beq_false, Bool.true_beq, Bool.false_beq, BEq.rfl, Int.reduceEq, Int.reduceLT, Int.reduceLE, Nat.reduceEqDiff, decide_true, decide_false, Bool.not_true, Bool.not_false, Bool.and_true, Bool.true_and, Bool.and_false, Bool.false_and, Bool.or_true, Bool.true_or, Bool.or_false, Bool.false_or, Bool.not_not]
  refine s_mem_Mem_Locks (m := m) (by omega) fun u2 hu2 => ?_
  try simp (maxSteps := 2000000) only [↓RG, RP, true_and, and_true, beq_true, beq_false, Bool.true_beq, Bool.false_beq, BEq.rfl, Int.reduceEq, Int.reduceLT, Int.reduceLE, Nat.reduceEqDiff, decide_true, decide_false, Bool.not_true, Bool.not_false, Bool.and_true, Bool.true_and, Bool.and_false, Bool.false_and, Bool.or_true, Bool.true_or, Bool.or_false, Bool.false_or, Bool.not_not]
  refine s_book_Same_api_Lock (xs := m.l) (ys := m.l) (by omega) ?_
  try simp (maxSteps := 2000000) only [↓RG, RP, true_and, and_true, beq_true, beq_false, Bool.true_beq, Bool.false_beq, BEq.rfl, Int.reduceEq, Int.reduceLT, Int.reduceLE, Nat.reduceEqDiff, decide_true, decide_false, Bool.not_true, Bool.not_false, Bool.and_true, Bool.true_and, Bool.and_false, Bool.false_and, Bool.or_true, Bool.true_or, Bool.or_false, Bool.false_or, Bool.not_not]
  refine s_mem_Mem_Now (m := m) ?_
  try simp (maxSteps := 2000000) only [↓RG, RP, true_and, and_true, beq_true, beq_false, Bool.true_beq, Bool.false_beq, BEq.rfl, Int.reduceEq, Int.reduceLT, Int.reduceLE, Nat.reduceEqDiff, decide_true, decide_false, Bool.not_true, Bool.not_false, Bool.and_true, Bool.true_and, Bool.and_false, Bool.false_and, Bool.or_true, Bool.true_or, Bool.or_false, Bool.false_or, Bool.not_not]
  refine s_mem_Mem_Slots (m := m) (by omega) fun u3 hu3 => ?_
  try simp (maxSteps := 2000000) only [↓RG, RP, true_and, and_true, beq_true, beq_false, Bool.true_beq, Bool.false_beq, BEq.rfl, Int.reduceEq, Int.reduceLT, Int.reduceLE, Nat.reduceEqDiff, decide_true, decide_false, Bool.not_true, Bool.not_false, Bool.and_true, Bool.true_and, Bool.and_false, Bool.false_and, Bool.or_true, Bool.true_or, Bool.or_false, Bool.false_or, Bool.not_not]
  refine s_book_Same_uint64 (xs := m.s) (ys := m.s) (by omega) ?_
  try simp (maxSteps := 2000000) only [↓RG, RP, true_and, and_true, beq_true, beq_false, Bool.true_beq, Bool.false_beq, BEq.rfl, Int.reduceEq, Int.reduceLT, Int.reduceLE, Nat.reduceEqDiff, decide_true, decide_false, Bool.not_true, Bool.not_false, Bool.and_true, Bool.true_and, Bool.and_false, Bool.false_and, Bool.or_true, Bool.true_or, Bool.or_false, Bool.false_or, Bool.not_not]
  refine s_mem_Mem_Count (m := m) ?_
  try simp (maxSteps := 2000000) only [↓RG, RP, true_and, and_true, beq_true, beq_false, Bool.true_beq, Bool.false_beq, BEq.rfl, Int.reduceEq, Int.reduceLT, Int.reduceLE, Nat.reduceEqDiff, decide_true, decide_false, Bool.not_true, Bool.not_false, Bool.and_true, Bool.true_and, Bool.and_false, Bool.false_and, Bool.or_true, Bool.true_or, Bool.or_false, Bool.false_or, Bool.not_not]
  refine s_mem_Mem_Shape (m := m) ?_
  try simp (maxSteps := 2000000) only [↓RG, RP, true_and, and_true, beq_true, beq_false, Bool.true_beq, Bool.false_beq, BEq.rfl, Int.reduceEq, Int.reduceLT, Int.reduceLE, Nat.reduceEqDiff, decide_true, decide_false, Bool.not_true, Bool.not_false, Bool.and_true, Bool.true_and, Bool.and_false, Bool.false_and, Bool.or_true, Bool.true_or, Bool.or_false, Bool.false_or, Bool.not_not]
  refine RMemR_close c m hh ?_
  exact hK.sub

set_option maxRecDepth 20000 in
theorem s_law6_do {l : Value} {qs : List TOp} {raw : Bool} [a : Arg w0 l tOpE qs] (hf : Few m) (hK : ∀ m', SameLen m m' → G w0 (ob MemR b m' :: ob RMemR c m' :: M) (K (.bool true))) :
    G w0 (ob MemR b m :: ob RMemR c m :: M) (CP Try.prog Fn.law6_do [ptr b 0, ptr c 0, l, .bool raw] K) := by
  refine C_law6_do ?_
  unfold S_law6_do
  try simp (maxSteps := 2000000) only [fuse_and, fuse_or, fuse_step, fuse_pair, fuse_in, andP_true]
  refine G.loop1 (σ := Nat × MemS) (fun s => i64 s.1) (fun s => ob MemR b s.2 :: ob RMemR c s.2 :: M) (fun s => s.1 ≤ qs.length ∧ SameLen m s.2) (fun s => qs.length - s.1) (0, m) rfl rfl ⟨by simp, .refl m⟩ ?_
  rintro ⟨k, z⟩ ⟨hk, hz⟩ J hJ
  simp only at hk hz hJ ⊢
  have hzf := hf.same hz
  try simp (maxSteps := 2000000) only [↓RG, RP, true_and, and_true, beq_true, beq_false, Bool.true_beq, Bool.false_beq, BEq.rfl, Int.reduceEq, Int.reduceLT, Int.reduceLE, Nat.reduceEqDiff, decide_true, decide_false, Bool.not_true, Bool.not_false, Bool.and_true, Bool.true_and, Bool.and_false, Bool.false_and, Bool.or_true, Bool.true_or, Bool.or_false, Bool.false_or, Bool.not_not]
  refine G.cond (fun h => ?_) (fun h => ?_)
  · have hk2 : k < qs.length := by simp at h; omega
    have hk60 : k < 60 := by simp at h; omega
    have e := elem_of hk2
    try simp (maxSteps := 2000000) only [↓RG, RP, true_and, and_true, beq_true, beq_false, Bool.true_beq, Bool.false_beq, BEq.rfl, Int.reduceEq, Int.reduceLT, Int.reduceLE, Nat.reduceEqDiff, decide_true, decide_false, Bool.not_true, Bool.not_false, Bool.and_true, Bool.true_and, Bool.and_false, Bool.false_and, Bool.or_true, Bool.true_or, Bool.or_false, Bool.false_or, Bool.not_not]
    refine s_law6_near (m := z) hzf fun o => ?_
    refine G.new fun p => ?_
    repeat' (first | (with_reducible refine G.joini0 ?_) | (with_reducible refine G.joini1 ?_) | (with_reducible refine G.drew ?_) | (simp (maxSteps := 2000000) only [↓RG, RP, true_and, and_true, beq_true, beq_false, Bool.true_beq, Bool.false_beq, BEq.rfl, Int.reduceEq, Int.reduceLT, Int.reduceLE, Nat.reduceEqDiff, decide_true, decide_false, Bool.not_true, Bool.not_false, Bool.and_true, Bool.true_and, Bool.and_false, Bool.false_and, Bool.or_true, Bool.true_or, Bool.or_false, Bool.false_or, Bool.not_not]))
    refine s_mem_Mem_Do (m := z) (o := o) ?_
    try simp (maxSteps := 2000000) only [↓RG, RP, true_and, and_true, beq_true, beq_false, Bool.true_beq, Bool.false_beq, BEq.rfl, Int.reduceEq, Int.reduceLT, Int.reduceLE, Nat.reduceEqDiff, decide_true, decide_false, Bool.not_true, Bool.not_false, Bool.and_true, Bool.true_and, Bool.and_false, Bool.false_and, Bool.or_true, Bool.true_or, Bool.or_false, Bool.false_or, Bool.not_not]
    refine s_ref1_Mem_Do (m := z) (o := o) (by have := hzf.1; omega) ?_
    try simp (maxSteps := 2000000) only [↓RG, RP, true_and, and_true, beq_true, beq_false, Bool.true_beq, Bool.false_beq, BEq.rfl, Int.reduceEq, Int.reduceLT, Int.reduceLE, Nat.reduceEqDiff, decide_true, decide_false, Bool.not_true, Bool.not_false, Bool.and_true, Bool.true_and, Bool.and_false, Bool.false_and, Bool.or_true, Bool.true_or, Bool.or_false, Bool.false_or, Bool.not_not]
    rw [wsucc (by omega)]
    exact (hJ (k + 1, (memDo z o).1) ⟨hk2, hz.trans (memDo_len z o)⟩ (by simp; omega)).sub
  · refine s_law6_same hzf ?_
    try simp (maxSteps := 2000000) only [↓RG, RP, true_and, and_true, beq_true, beq_false, Bool.true_beq, Bool.false_beq, BEq.rfl, Int.reduceEq, Int.reduceLT, Int.reduceLE, Nat.reduceEqDiff, decide_true, decide_false, Bool.not_true, Bool.not_false, Bool.and_true, Bool.true_and, Bool.and_false, Bool.false_and, Bool.or_true, Bool.true_or, Bool.or_false, Bool.false_or, Bool.not_not]
    exact hK z hz

theorem s_law6_MemPlays {s : TShape} {l : Value} {qs : List TOp} {raw : Bool} [a : Arg w0 l tOpE qs] (hK : G w0 L (K (.bool true))) : G w0 L (CP Try.prog Fn.law6_MemPlays [.agg (TShape.cells s).toArray, l, .bool raw] K) := by
  refine C_law6_MemPlays ?_
  unfold S_law6_MemPlays
  try simp (maxSteps := 2000000) only [fuse_and, fuse_or, fuse_step, fuse_pair, fuse_in, andP_true]
  refine G.box fun p => ?_
  refine s_law6_MemRuns ?_
  repeat' (first | (with_reducible refine G.joini0 ?_) | (with_reducible refine G.joini1 ?_) | (with_reducible refine G.drew ?_) | (simp (maxSteps := 2000000) only [↓RG, RP, true_and, and_true, beq_true, beq_false, Bool.true_beq, Bool.false_beq, BEq.rfl, Int.reduceEq, Int.reduceLT, Int.reduceLE, Nat.reduceEqDiff, decide_true, decide_false, Bool.not_true, Bool.not_false, Bool.and_true, Bool.true_and, Bool.and_false, Bool.false_and, Bool.or_true, Bool.true_or, Bool.or_false, Bool.false_or, Bool.not_not]))
  refine s_mem_New fun b => ?_
  try simp (maxSteps := 2000000) only [↓RG, RP, true_and, and_true, beq_true, beq_false, Bool.true_beq, Bool.false_beq, BEq.rfl, Int.reduceEq, Int.reduceLT, Int.reduceLE, Nat.reduceEqDiff, decide_true, decide_false, Bool.not_true, Bool.not_false, Bool.and_true, Bool.true_and, Bool.and_false, Bool.false_and, Bool.or_true, Bool.true_or, Bool.or_false, Bool.false_or, Bool.not_not]
  refine s_ref1_NewMem fun c => ?_
  have hn := newMem_few s
  generalize hm : newMem s = m at hn
  have hsh : m.shape = heldShape s := by rw [← hm]; rfl
  refine G.take1 RMemR c ?_
  rw [RMemR_open]
  intro vw vl vs hh
  repeat' (first | (with_reducible refine G.joini0 ?_) | (with_reducible refine G.joini1 ?_) | (with_reducible refine G.drew ?_) | (simp (maxSteps := 2000000) only [↓RG, RP, true_and, and_true, beq_true, beq_false, Bool.true_beq, Bool.false_beq, BEq.rfl, Int.reduceEq, Int.reduceLT, Int.reduceLE, Nat.reduceEqDiff, decide_true, decide_false, Bool.not_true, Bool.not_false, Bool.and_true, Bool.true_and, Bool.and_false, Bool.false_and, Bool.or_true, Bool.true_or, Bool.or_false, Bool.false_or, Bool.not_not]))
  refine s_mem_Held ?_
  try simp (maxSteps := 2000000) only [↓RG, RP, true_and, and_true, beq_true, beq_false, Bool.true_beq, Bool.false_beq, BEq.rfl, Int.reduceEq, Int.reduceLT, Int.reduceLE, Nat.reduceEqDiff, decide_true, decide_false, Bool.not_true, Bool.not_false, Bool.and_true, Bool.true_and, Bool.and_false, Bool.false_and, Bool.or_true, Bool.true_or, Bool.or_false, Bool.false_or, Bool.not_not, hsh]
  rw [← hsh]
  refine RMemR_close c m hh ?_
  refine G.take1 MemR b ?_
  refine s_law6_same hn ?_
  try simp (maxSteps := 2000000) only [↓RG, RP, true_and, and_true, beq_true, beq_false, Bool.true_beq, Bool.false_beq, BEq.rfl, Int.reduceEq, Int.reduceLT, Int.reduceLE, Nat.reduceEqDiff, decide_true, decide_false, Bool.not_true, Bool.not_false, Bool.and_true, Bool.true_and, Bool.and_false, Bool.false_and, Bool.or_true, Bool.true_or, Bool.or_false, Bool.false_or, Bool.not_not]
  refine s_law6_do hn fun m' h' => ?_
  try simp (maxSteps := 2000000) only [↓RG, RP, true_and, and_true, beq_true, beq_false, Bool.true_beq, Bool.false_beq, BEq.rfl, Int.reduceEq, Int.reduceLT, Int.reduceLE, Nat.reduceEqDiff, decide_true, decide_false, Bool.not_true, Bool.not_false, Bool.and_true, Bool.true_and, Bool.and_false, Bool.false_and, Bool.or_true, Bool.true_or, Bool.or_false, Bool.false_or, Bool.not_not]
  exact hK.sub

theorem s_law6_MemStripes {s : TShape} {a : Int} (hK : G w0 L (K (.bool true))) : G w0 L (CP Try.prog Fn.law6_MemStripes [.agg (TShape.cells s).toArray, i64 a] K) := by
  refine C_law6_MemStripes ?_
  unfold S_law6_MemStripes
  try simp (maxSteps := 2000000) only [fuse_and, fuse_or, fuse_step, fuse_pair, fuse_in, andP_true]
  refine G.box fun p => ?_
  refine s_law6_MemRuns ?_
  repeat' (first | (with_reducible refine G.joini0 ?_) | (with_reducible refine G.joini1 ?_) | (with_reducible refine G.drew ?_) | (simp (maxSteps := 2000000) only [↓RG, RP, true_and, and_true, beq_true, beq_false, Bool.true_beq, Bool.false_beq, BEq.rfl, Int.reduceEq, Int.reduceLT, Int.reduceLE, Nat.reduceEqDiff, decide_true, decide_false, Bool.not_true, Bool.not_false, Bool.and_true, Bool.true_and, Bool.and_false, Bool.false_and, Bool.or_true, Bool.true_or, Bool.or_false, Bool.false_or, Bool.not_not]))
  refine s_mem_New fun b => ?_
  repeat' (first | (with_reducible refine G.joini0 ?_) | (with_reducible refine G.joini1 ?_) | (with_reducible refine G.drew ?_) | (simp (maxSteps := 2000000) only [↓RG, RP, true_and, and_true, beq_true, beq_false, Bool.true_beq, Bool.false_beq, BEq.rfl, Int.reduceEq, Int.reduceLT, Int.reduceLE, Nat.reduceEqDiff, decide_true, decide_false, Bool.not_true, Bool.not_false, Bool.and_true, Bool.true_and, Bool.and_false, Bool.false_and, Bool.or_true, Bool.true_or, Bool.or_false, Bool.false_or, Bool.not_not]))
  refine s_mem_Mem_Stripe (m := newMem s) ?_
  try simp (maxSteps := 2000000) only [↓RG, RP, true_and, and_true, beq_true, beq_false, Bool.true_beq, Bool.false_beq, BEq.rfl, Int.reduceEq, Int.reduceLT, Int.reduceLE, Nat.reduceEqDiff, decide_true, decide_false, Bool.not_true, Bool.not_false, Bool.and_true, Bool.true_and, Bool.and_false, Bool.false_and, Bool.or_true, Bool.true_or, Bool.or_false, Bool.false_or, Bool.not_not]
  refine s_ref1_Of ?_
  have h2 := held_le (n := s.stripes) (show (1 : Int) ≤ 16 by omega)
  have e1 : ((newMem s).l.length : Int) = held s.stripes 1 16 := by simp only [newMem, List.length_replicate]; omega
  have e2 : (newMem s).shape.wide = held s.wide 1 16 := rfl
  have e : stripeOf a (newMem s).l.length (newMem s).shape.wide = stripeOf a s.stripes s.wide := by
    unfold stripeOf
    rw [e1, e2, held_held (by omega), held_held (by omega)]
  rw [e]
  try simp (maxSteps := 2000000) only [↓RG, RP, true_and, and_true, beq_true, beq_false, Bool.true_beq, Bool.false_beq, BEq.rfl, Int.reduceEq, Int.reduceLT, Int.reduceLE, Nat.reduceEqDiff, decide_true, decide_false, Bool.not_true, Bool.not_false, Bool.and_true, Bool.true_and, Bool.and_false, Bool.false_and, Bool.or_true, Bool.true_or, Bool.or_false, Bool.false_or, Bool.not_not]
  exact hK.sub

theorem s_law6_MemCopies {s : TShape} {l1 l2 l3 : Value} {q1 q2 q3 : List TOp} [a1 : Arg w0 l1 tOpE q1] [a2 : Arg w0 l2 tOpE q2] [a3 : Arg w0 l3 tOpE q3] (hK : G w0 L (K (.bool true))) :
    G w0 L (CP Try.prog Fn.law6_MemCopies [.agg (TShape.cells s).toArray, l1, l2, l3] K) := by
  refine C_law6_MemCopies ?_
  unfold S_law6_MemCopies
  refine G.box fun p => ?_
  refine s_law6_MemRuns ?_
  try simp (maxSteps := 2000000) only [fuse_and, fuse_or, fuse_step, fuse_pair, fuse_in, andP_true]
  repeat' (first | (with_reducible refine G.joini0 ?_) | (with_reducible refine G.joini1 ?_) | (with_reducible refine G.drew ?_) | (simp (maxSteps := 2000000) only [↓RG, RP, true_and, and_true, beq_true, beq_false, Bool.true_beq, Bool.false_beq, BEq.rfl, Int.reduceEq, Int.reduceLT, Int.reduceLE, Nat.reduceEqDiff, decide_true, decide_false, Bool.not_true, Bool.not_false, Bool.and_true, Bool.true_and, Bool.and_false, Bool.false_and, Bool.or_true, Bool.true_or, Bool.or_false, Bool.false_or, Bool.not_not]))
  refine s_mem_New fun b => ?_
  try simp (maxSteps := 2000000) only [↓RG, RP, true_and, and_true, beq_true, beq_false, Bool.true_beq, Bool.false_beq, BEq.rfl, Int.reduceEq, Int.reduceLT, Int.reduceLE, Nat.reduceEqDiff, decide_true, decide_false, Bool.not_true, Bool.not_false, Bool.and_true, Bool.true_and, Bool.and_false, Bool.false_and, Bool.or_true, Bool.true_or, Bool.or_false, Bool.false_or, Bool.not_not]
  refine s_ref1_NewMem fun c => ?_
  have hn := newMem_few s
  generalize hm : newMem s = m at hn
  refine G.take1 MemR b ?_
  repeat' (first | (with_reducible refine G.joini0 ?_) | (with_reducible refine G.joini1 ?_) | (with_reducible refine G.drew ?_) | (simp (maxSteps := 2000000) only [↓RG, RP, true_and, and_true, beq_true, beq_false, Bool.true_beq, Bool.false_beq, BEq.rfl, Int.reduceEq, Int.reduceLT, Int.reduceLE, Nat.reduceEqDiff, decide_true, decide_false, Bool.not_true, Bool.not_false, Bool.and_true, Bool.true_and, Bool.and_false, Bool.false_and, Bool.or_true, Bool.true_or, Bool.or_false, Bool.false_or, Bool.not_not]))
  refine s_law6_do hn fun m1 h1 => ?_
  have f1 := hn.same h1
  try simp (maxSteps := 2000000) only [↓RG, RP, true_and, and_true, beq_true, beq_false, Bool.true_beq, Bool.false_beq, BEq.rfl, Int.reduceEq, Int.reduceLT, Int.reduceLE, Nat.reduceEqDiff, decide_true, decide_false, Bool.not_true, Bool.not_false, Bool.and_true, Bool.true_and, Bool.and_false, Bool.false_and, Bool.or_true, Bool.true_or, Bool.or_false, Bool.false_or, Bool.not_not]
  refine s_mem_Mem_Copy (m := m1) ⟨by have := f1.1; omega, by have := f1.2.1; omega, by have := f1.2.2; omega⟩ fun b2 => ?_
  refine s_ref1_Mem_Copy (m := m1) ⟨by have := f1.1; omega, by have := f1.2.1; omega, by have := f1.2.2; omega⟩ fun c2 => ?_
  refine G.take1 MemR b2 ?_
  try simp (maxSteps := 2000000) only [↓RG, RP, true_and, and_true, beq_true, beq_false, Bool.true_beq, Bool.false_beq, BEq.rfl, Int.reduceEq, Int.reduceLT, Int.reduceLE, Nat.reduceEqDiff, decide_true, decide_false, Bool.not_true, Bool.not_false, Bool.and_true, Bool.true_and, Bool.and_false, Bool.false_and, Bool.or_true, Bool.true_or, Bool.or_false, Bool.false_or, Bool.not_not]
  refine s_law6_do f1 fun m2 h2 => ?_
  try simp (maxSteps := 2000000) only [↓RG, RP, true_and, and_true, beq_true, beq_false, Bool.true_beq, Bool.false_beq, BEq.rfl, Int.reduceEq, Int.reduceLT, Int.reduceLE, Nat.reduceEqDiff, decide_true, decide_false, Bool.not_true, Bool.not_false, Bool.and_true, Bool.true_and, Bool.and_false, Bool.false_and, Bool.or_true, Bool.true_or, Bool.or_false, Bool.false_or, Bool.not_not]
  refine G.take1 RMemR c ?_
  refine G.take1 MemR b ?_
  refine s_law6_do f1 fun m3 h3 => ?_
  try simp (maxSteps := 2000000) only [↓RG, RP, true_and, and_true, beq_true, beq_false, Bool.true_beq, Bool.false_beq, BEq.rfl, Int.reduceEq, Int.reduceLT, Int.reduceLE, Nat.reduceEqDiff, decide_true, decide_false, Bool.not_true, Bool.not_false, Bool.and_true, Bool.true_and, Bool.and_false, Bool.false_and, Bool.or_true, Bool.true_or, Bool.or_false, Bool.false_or, Bool.not_not]
  refine G.take1 RMemR c2 ?_
  refine G.take1 MemR b2 ?_
  refine s_law6_same (f1.same h2) ?_
  try simp (maxSteps := 2000000) only [↓RG, RP, true_and, and_true, beq_true, beq_false, Bool.true_beq, Bool.false_beq, BEq.rfl, Int.reduceEq, Int.reduceLT, Int.reduceLE, Nat.reduceEqDiff, decide_true, decide_false, Bool.not_true, Bool.not_false, Bool.and_true, Bool.true_and, Bool.and_false, Bool.false_and, Bool.or_true, Bool.true_or, Bool.or_false, Bool.false_or, Bool.not_not]
  exact hK.sub

theorem getElem?_set_ne {α : Type} {l : List α} {k i : Nat} {v x y : α} (h : l[i]? = some x) (h2 : (l.set k v)[i]? = some y) (hne : x ≠ y) : i = k ∧ y = v := by
  rw [List.getElem?_set] at h2
  split at h2
  · split at h2
    · rename_i e _; cases h2; exact ⟨e.symm, rfl⟩
    · cases h2
  · rw [h] at h2; cases h2; exact absurd rfl hne

theorem apart_w {o : TOp} {i : Nat} {x y : Int} (h : m.w[i]? = some x) (h2 : (memDo m o).1.w[i]? = some y) (hne : x ≠ y) : o.kind = 2 ∧ (i : Int) = o.place ∧ y = o.word := by
  have e : (memDo m o).1.w = (memStep m o).1.w := by unfold memDo; split <;> rfl
  rw [e] at h2
  have same : (memStep m o).1.w = m.w → False := fun e => by rw [e, h] at h2; cases h2; exact hne rfl
  unfold memStep at h2 same
  by_cases k1 : o.kind = 1
  · exfalso; apply same; simp only [k1, if_true]; split <;> rfl
  by_cases k2 : o.kind = 2
  · refine ⟨k2, ?_⟩
    simp only [k2, Int.reduceEq, if_true, if_false] at h2
    split at h2
    · rename_i hin
      obtain ⟨j, hj, _, _⟩ := inHeap_elim hin
      rw [hj] at h2
      obtain ⟨rfl, rfl⟩ := getElem?_set_ne h h2 hne
      exact ⟨by rw [hj], rfl⟩
    · rw [h] at h2; cases h2; exact absurd rfl hne
  · exfalso; apply same
    simp only [k1, k2, if_false]
    repeat' split
    all_goals rfl

theorem apart_s {o : TOp} {i : Nat} {x y : Int} (h : m.s[i]? = some x) (h2 : (memDo m o).1.s[i]? = some y) (hne : x ≠ y) : o.kind = 9 ∧ (i : Int) = o.place ∧ y = o.word := by
  have e : (memDo m o).1.s = (memStep m o).1.s := by unfold memDo; split <;> rfl
  rw [e] at h2
  have same : (memStep m o).1.s = m.s → False := fun e => by rw [e, h] at h2; cases h2; exact hne rfl
  by_cases k9 : o.kind = 9
  · refine ⟨k9, ?_⟩
    rw [memStep_9 k9] at h2
    split at h2
    · rename_i hin
      obtain ⟨j, hj, _⟩ := inLen_elim hin
      rw [hj] at h2
      obtain ⟨rfl, rfl⟩ := getElem?_set_ne h h2 hne
      exact ⟨by rw [hj], rfl⟩
    · rw [h] at h2; cases h2; exact absurd rfl hne
  · exfalso; apply same
    unfold memStep
    simp only [k9, if_false]
    repeat' split
    all_goals rfl

theorem apart_n {o : TOp} (hne : m.n ≠ (memDo m o).1.n) : o.kind = 7 ∧ (memDo m o).2.done = true ∧ (memDo m o).1.n = o.word := by
  have e : (memDo m o).1.n = (memStep m o).1.n := by unfold memDo; split <;> rfl
  rw [memDo_ans]
  rw [e] at hne ⊢
  by_cases k7 : o.kind = 7
  · refine ⟨k7, ?_⟩
    rw [memStep_7 k7] at hne ⊢
    simp only at hne ⊢
    unfold clockCas at hne ⊢
    split at hne
    · exact absurd rfl hne
    · rename_i c1
      rw [if_neg c1]
      split at hne
      · exact absurd rfl hne
      · rename_i c2
        rw [if_neg c2]
        split at hne
        · rename_i c3
          rw [if_pos c3]; exact ⟨rfl, rfl⟩
        · exact absurd rfl hne
  · exfalso; apply hne
    unfold memStep
    simp only [k7, if_false]
    repeat' split
    all_goals rfl

theorem apart_l {o : TOp} {i : Nat} {x y : TLock} (h : m.l[i]? = some x) (h2 : (memDo m o).1.l[i]? = some y) (hne : x ≠ y) : (o.kind = 5 ∨ o.kind = 4 ∧ (memDo m o).2.done = true) ∧ (i : Int) = o.place ∧ y = o.lock := by
  rw [memDo_l] at h2
  rw [memDo_ans]
  have same : (memStep m o).1.l = m.l → False := fun e => by rw [e, h] at h2; cases h2; exact hne rfl
  by_cases k4 : o.kind = 4
  · rw [memStep_4 k4] at h2 same ⊢
    simp only at h2 same ⊢
    unfold casRes at h2 same ⊢
    split at h2
    · rename_i c1
      obtain ⟨j, hj, hjl, _⟩ := mayErr_zero c1
      rw [if_pos c1] at same ⊢
      split at h2
      · rename_i c2
        rw [if_pos c2]
        rw [hj] at h2
        obtain ⟨rfl, rfl⟩ := getElem?_set_ne h h2 hne
        exact ⟨.inr ⟨k4, rfl⟩, by rw [hj], rfl⟩
      · rename_i c2
        rw [if_neg c2] at same; exact (same rfl).elim
    · rename_i c1
      rw [if_neg c1] at same; exact (same rfl).elim
  by_cases k5 : o.kind = 5
  · rw [memStep_5 k5] at h2 same ⊢
    simp only at h2 same ⊢
    unfold storeRes at h2 same
    split at h2
    · rename_i c1
      obtain ⟨j, hj, hjl, _⟩ := mayErr_zero c1
      rw [hj] at h2
      obtain ⟨rfl, rfl⟩ := getElem?_set_ne h h2 hne
      exact ⟨.inl k5, by rw [hj], rfl⟩
    · rename_i c1
      rw [if_neg c1] at same; exact (same rfl).elim
  · exfalso; apply same
    unfold memStep
    simp only [k4, k5, if_false]
    repeat' split
    all_goals rfl

set_option maxRecDepth 20000 in
set_option maxHeartbeats 4000000 in
theorem s_law6_MemApart {s : TShape} {o : TOp} {l1 : Value} {q1 : List TOp} [a1 : Arg w0 l1 tOpE q1] (hK : G w0 L (K (.bool true))) :
    G w0 L (CP Try.prog Fn.law6_MemApart [.agg (TShape.cells s).toArray, l1, .agg (TOp.cells o).toArray] K) := by
  refine C_law6_MemApart ?_
  unfold S_law6_MemApart
  refine G.box fun p => ?_
  refine G.box fun p2 => ?_
  refine s_law6_MemRuns ?_
  try simp (maxSteps := 2000000) only [fuse_and, fuse_or, fuse_step, fuse_pair, fuse_in, andP_true]
  repeat' (first | (with_reducible refine G.joini0 ?_) | (with_reducible refine G.joini1 ?_) | (with_reducible refine G.drew ?_) | (simp (maxSteps := 2000000) only [↓RG, RP, true_and, and_true, beq_true, beq_false, Bool.true_beq, Bool.false_beq, BEq.rfl, Int.reduceEq, Int.reduceLT, Int.reduceLE, Nat.reduceEqDiff, decide_true, decide_false, Bool.not_true, Bool.not_false, Bool.and_true, Bool.true_and, Bool.and_false, Bool.false_and, Bool.or_true, Bool.true_or, Bool.or_false, Bool.false_or, Bool.not_not]))
  refine s_mem_New fun b => ?_
  try simp (maxSteps := 2000000) only [↓RG, RP, true_and, and_true, beq_true, beq_false, Bool.true_beq, Bool.false_beq, BEq.rfl, Int.reduceEq, Int.reduceLT, Int.reduceLE, Nat.reduceEqDiff, decide_true, decide_false, Bool.not_true, Bool.not_false, Bool.and_true, Bool.true_and, Bool.and_false, Bool.false_and, Bool.or_true, Bool.true_or, Bool.or_false, Bool.false_or, Bool.not_not]
  refine s_ref1_NewMem fun c => ?_
  have hn := newMem_few s
  generalize hm : newMem s = m at hn
  refine G.take1 MemR b ?_
  repeat' (first | (with_reducible refine G.joini0 ?_) | (with_reducible refine G.joini1 ?_) | (with_reducible refine G.drew ?_) | (simp (maxSteps := 2000000) only [↓RG, RP, true_and, and_true, beq_true, beq_false, Bool.true_beq, Bool.false_beq, BEq.rfl, Int.reduceEq, Int.reduceLT, Int.reduceLE, Nat.reduceEqDiff, decide_true, decide_false, Bool.not_true, Bool.not_false, Bool.and_true, Bool.true_and, Bool.and_false, Bool.false_and, Bool.or_true, Bool.true_or, Bool.or_false, Bool.false_or, Bool.not_not]))
  refine s_law6_do hn fun m1 h1 => ?_
  have f1 := hn.same h1
  obtain ⟨f1w, f1l, f1s⟩ := id f1
  try simp (maxSteps := 2000000) only [↓RG, RP, true_and, and_true, beq_true, beq_false, Bool.true_beq, Bool.false_beq, BEq.rfl, Int.reduceEq, Int.reduceLT, Int.reduceLE, Nat.reduceEqDiff, decide_true, decide_false, Bool.not_true, Bool.not_false, Bool.and_true, Bool.true_and, Bool.and_false, Bool.false_and, Bool.or_true, Bool.true_or, Bool.or_false, Bool.false_or, Bool.not_not]
  refine s_law6_near (m := m1) f1 fun o => ?_
  try simp (maxSteps := 2000000) only [↓RG, RP, true_and, and_true, beq_true, beq_false, Bool.true_beq, Bool.false_beq, BEq.rfl, Int.reduceEq, Int.reduceLT, Int.reduceLE, Nat.reduceEqDiff, decide_true, decide_false, Bool.not_true, Bool.not_false, Bool.and_true, Bool.true_and, Bool.and_false, Bool.false_and, Bool.or_true, Bool.true_or, Bool.or_false, Bool.false_or, Bool.not_not]
  refine s_mem_Mem_Words (m := m1) (by omega) fun u1 hu1 => ?_
  refine s_mem_Mem_Locks (m := m1) (by omega) fun u2 hu2 => ?_
  refine s_mem_Mem_Now (m := m1) ?_
  refine s_mem_Mem_Slots (m := m1) (by omega) fun u3 hu3 => ?_
  try simp (maxSteps := 2000000) only [↓RG, RP, true_and, and_true, beq_true, beq_false, Bool.true_beq, Bool.false_beq, BEq.rfl, Int.reduceEq, Int.reduceLT, Int.reduceLE, Nat.reduceEqDiff, decide_true, decide_false, Bool.not_true, Bool.not_false, Bool.and_true, Bool.true_and, Bool.and_false, Bool.false_and, Bool.or_true, Bool.true_or, Bool.or_false, Bool.false_or, Bool.not_not]
  refine s_mem_Mem_Do (m := m1) (o := o) ?_
  have hs := memDo_len m1 o
  have aw := fun i x y => @apart_w m1 o i x y
  have al := fun i x y => @apart_l m1 o i x y
  have asl := fun i x y => @apart_s m1 o i x y
  have an := @apart_n m1 o
  generalize memDo m1 o = r at hs aw al asl an
  obtain ⟨m2, a⟩ := r
  obtain ⟨a1, a2, ad, a4⟩ := a
  obtain ⟨kd, pl, od, wd, was, lk⟩ := o
  simp only at hs aw al asl an
  have hs1 := hs.w
  have hs2 := hs.l
  have hs3 := hs.s
  try simp (maxSteps := 2000000) only [↓RG, RP, true_and, and_true, beq_true, beq_false, Bool.true_beq, Bool.false_beq, BEq.rfl, Int.reduceEq, Int.reduceLT, Int.reduceLE, Nat.reduceEqDiff, decide_true, decide_false, Bool.not_true, Bool.not_false, Bool.and_true, Bool.true_and, Bool.and_false, Bool.false_and, Bool.or_true, Bool.true_or, Bool.or_false, Bool.false_or, Bool.not_not]
  refine G.new fun p3 => ?_
  try simp (maxSteps := 2000000) only [↓RG, RP, true_and, and_true, beq_true, beq_false, Bool.true_beq, Bool.false_beq, BEq.rfl, Int.reduceEq, Int.reduceLT, Int.reduceLE, Nat.reduceEqDiff, decide_true, decide_false, Bool.not_true, Bool.not_false, Bool.and_true, Bool.true_and, Bool.and_false, Bool.false_and, Bool.or_true, Bool.true_or, Bool.or_false, Bool.false_or, Bool.not_not]
  refine s_mem_Mem_Words (m := m2) (by omega) fun v1 hv1 => ?_
  refine s_mem_Mem_Locks (m := m2) (by omega) fun v2 hv2 => ?_
  refine s_mem_Mem_Now (m := m2) ?_
  refine s_mem_Mem_Slots (m := m2) (by omega) fun v3 hv3 => ?_
  try simp (maxSteps := 2000000) only [↓RG, RP, true_and, and_true, beq_true, beq_false, Bool.true_beq, Bool.false_beq, BEq.rfl, Int.reduceEq, Int.reduceLT, Int.reduceLE, Nat.reduceEqDiff, decide_true, decide_false, Bool.not_true, Bool.not_false, Bool.and_true, Bool.true_and, Bool.and_false, Bool.false_and, Bool.or_true, Bool.true_or, Bool.or_false, Bool.false_or, Bool.not_not, hs1, hs2, hs3]
  refine G.loopc1 (fun k : Nat => i64 k) (fun k => k ≤ m1.w.length) (fun k => m1.w.length - k) 0 rfl (by simp) ?_
  intro k hk J hJ
  try simp (maxSteps := 2000000) only [↓RG, RP, true_and, and_true, beq_true, beq_false, Bool.true_beq, Bool.false_beq, BEq.rfl, Int.reduceEq, Int.reduceLT, Int.reduceLE, Nat.reduceEqDiff, decide_true, decide_false, Bool.not_true, Bool.not_false, Bool.and_true, Bool.true_and, Bool.and_false, Bool.false_and, Bool.or_true, Bool.true_or, Bool.or_false, Bool.false_or, Bool.not_not]
  refine G.cond (fun h => ?_) (fun h => ?_)
  · have hk2 : k < m1.w.length := by simpa using h
    have hk3 : k < m2.w.length := by omega
    have e := elem_of hk2
    have e' := elem_of hk3
    by_cases hxy : m1.w[k] = m2.w[k]
    · repeat' (first | (with_reducible refine G.joini0 ?_) | (with_reducible refine G.joini1 ?_) | (with_reducible refine G.drew ?_) | (simp (maxSteps := 2000000) only [↓RG, RP, true_and, and_true, beq_true, beq_false, Bool.true_beq, Bool.false_beq, BEq.rfl, Int.reduceEq, Int.reduceLT, Int.reduceLE, Nat.reduceEqDiff, decide_true, decide_false, Bool.not_true, Bool.not_false, Bool.and_true, Bool.true_and, Bool.and_false, Bool.false_and, Bool.or_true, Bool.true_or, Bool.or_false, Bool.false_or, Bool.not_not, hxy]))
      rw [wsucc (by omega)]
      exact (hJ (k + 1) hk2 (by omega)).sub
    · obtain ⟨g1, g2, g3⟩ := aw k m1.w[k] m2.w[k] e.eq e'.eq hxy
      subst g1; subst g2; subst g3
      repeat' (first | (with_reducible refine G.joini0 ?_) | (with_reducible refine G.joini1 ?_) | (with_reducible refine G.drew ?_) | (simp (maxSteps := 2000000) only [↓RG, RP, true_and, and_true, beq_true, beq_false, Bool.true_beq, Bool.false_beq, BEq.rfl, Int.reduceEq, Int.reduceLT, Int.reduceLE, Nat.reduceEqDiff, decide_true, decide_false, Bool.not_true, Bool.not_false, Bool.and_true, Bool.true_and, Bool.and_false, Bool.false_and, Bool.or_true, Bool.true_or, Bool.or_false, Bool.false_or, Bool.not_not, hxy]))
      rw [wsucc (by omega)]
      exact (hJ (k + 1) hk2 (by omega)).sub
  refine G.loopc1 (fun k : Nat => i64 k) (fun k => k ≤ m1.l.length) (fun k => m1.l.length - k) 0 rfl (by simp) ?_
  intro k hk J hJ
  try simp (maxSteps := 2000000) only [↓RG, RP, true_and, and_true, beq_true, beq_false, Bool.true_beq, Bool.false_beq, BEq.rfl, Int.reduceEq, Int.reduceLT, Int.reduceLE, Nat.reduceEqDiff, decide_true, decide_false, Bool.not_true, Bool.not_false, Bool.and_true, Bool.true_and, Bool.and_false, Bool.false_and, Bool.or_true, Bool.true_or, Bool.or_false, Bool.false_or, Bool.not_not]
  refine G.cond (fun h => ?_) (fun h => ?_)
  · have hk2 : k < m1.l.length := by simpa using h
    have hk3 : k < m2.l.length := by omega
    have e := elem_of hk2
    have e' := elem_of hk3
    by_cases hxy : m1.l[k] = m2.l[k]
    · repeat' (first | (with_reducible refine G.joini0 ?_) | (with_reducible refine G.joini1 ?_) | (with_reducible refine G.drew ?_) | (simp (maxSteps := 2000000) only [↓RG, RP, true_and, and_true, beq_true, beq_false, Bool.true_beq, Bool.false_beq, BEq.rfl, Int.reduceEq, Int.reduceLT, Int.reduceLE, Nat.reduceEqDiff, decide_true, decide_false, Bool.not_true, Bool.not_false, Bool.and_true, Bool.true_and, Bool.and_false, Bool.false_and, Bool.or_true, Bool.true_or, Bool.or_false, Bool.false_or, Bool.not_not, hxy]))
      rw [wsucc (by omega)]
      exact (hJ (k + 1) hk2 (by omega)).sub
    · obtain ⟨g1, g2, g3⟩ := al k m1.l[k] m2.l[k] e.eq e'.eq hxy
      have hq : decide (m1.l[k] = m2.l[k]) = false := decide_eq_false hxy
      subst g2; subst g3
      rcases g1 with g1 | ⟨g1, g4⟩
      · subst g1
        repeat' (first | (with_reducible refine G.joini0 ?_) | (with_reducible refine G.joini1 ?_) | (with_reducible refine G.drew ?_) | (simp (maxSteps := 2000000) only [↓RG, RP, true_and, and_true, beq_true, beq_false, Bool.true_beq, Bool.false_beq, BEq.rfl, Int.reduceEq, Int.reduceLT, Int.reduceLE, Nat.reduceEqDiff, decide_true, decide_false, Bool.not_true, Bool.not_false, Bool.and_true, Bool.true_and, Bool.and_false, Bool.false_and, Bool.or_true, Bool.true_or, Bool.or_false, Bool.false_or, Bool.not_not, TLock.eqb m1.l[k] m2.l[k], hq]))
        rw [wsucc (by omega)]
        exact (hJ (k + 1) hk2 (by omega)).sub
      · subst g1; subst g4
        repeat' (first | (with_reducible refine G.joini0 ?_) | (with_reducible refine G.joini1 ?_) | (with_reducible refine G.drew ?_) | (simp (maxSteps := 2000000) only [↓RG, RP, true_and, and_true, beq_true, beq_false, Bool.true_beq, Bool.false_beq, BEq.rfl, Int.reduceEq, Int.reduceLT, Int.reduceLE, Nat.reduceEqDiff, decide_true, decide_false, Bool.not_true, Bool.not_false, Bool.and_true, Bool.true_and, Bool.and_false, Bool.false_and, Bool.or_true, Bool.true_or, Bool.or_false, Bool.false_or, Bool.not_not, TLock.eqb m1.l[k] m2.l[k], hq]))
        rw [wsucc (by omega)]
        exact (hJ (k + 1) hk2 (by omega)).sub
  refine G.loopc1 (fun k : Nat => i64 k) (fun k => k ≤ m1.s.length) (fun k => m1.s.length - k) 0 rfl (by simp) ?_
  intro k hk J hJ
  try simp (maxSteps := 2000000) only [↓RG, RP, true_and, and_true, beq_true, beq_false, Bool.true_beq, Bool.false_beq, BEq.rfl, Int.reduceEq, Int.reduceLT, Int.reduceLE, Nat.reduceEqDiff, decide_true, decide_false, Bool.not_true, Bool.not_false, Bool.and_true, Bool.true_and, Bool.and_false, Bool.false_and, Bool.or_true, Bool.true_or, Bool.or_false, Bool.false_or, Bool.not_not]
  refine G.cond (fun h => ?_) (fun h => ?_)
  · have hk2 : k < m1.s.length := by simpa using h
    have hk3 : k < m2.s.length := by omega
    have e := elem_of hk2
    have e' := elem_of hk3
    by_cases hxy : m1.s[k] = m2.s[k]
    · repeat' (first | (with_reducible refine G.joini0 ?_) | (with_reducible refine G.joini1 ?_) | (with_reducible refine G.drew ?_) | (simp (maxSteps := 2000000) only [↓RG, RP, true_and, and_true, beq_true, beq_false, Bool.true_beq, Bool.false_beq, BEq.rfl, Int.reduceEq, Int.reduceLT, Int.reduceLE, Nat.reduceEqDiff, decide_true, decide_false, Bool.not_true, Bool.not_false, Bool.and_true, Bool.true_and, Bool.and_false, Bool.false_and, Bool.or_true, Bool.true_or, Bool.or_false, Bool.false_or, Bool.not_not, hxy]))
      rw [wsucc (by omega)]
      exact (hJ (k + 1) hk2 (by omega)).sub
    · obtain ⟨g1, g2, g3⟩ := asl k m1.s[k] m2.s[k] e.eq e'.eq hxy
      subst g1; subst g2; subst g3
      repeat' (first | (with_reducible refine G.joini0 ?_) | (with_reducible refine G.joini1 ?_) | (with_reducible refine G.drew ?_) | (simp (maxSteps := 2000000) only [↓RG, RP, true_and, and_true, beq_true, beq_false, Bool.true_beq, Bool.false_beq, BEq.rfl, Int.reduceEq, Int.reduceLT, Int.reduceLE, Nat.reduceEqDiff, decide_true, decide_false, Bool.not_true, Bool.not_false, Bool.and_true, Bool.true_and, Bool.and_false, Bool.false_and, Bool.or_true, Bool.true_or, Bool.or_false, Bool.false_or, Bool.not_not, hxy]))
      rw [wsucc (by omega)]
      exact (hJ (k + 1) hk2 (by omega)).sub
  by_cases hxy : m1.n = m2.n
  · repeat' (first | (with_reducible refine G.joini0 ?_) | (with_reducible refine G.joini1 ?_) | (with_reducible refine G.drew ?_) | (simp (maxSteps := 2000000) only [↓RG, RP, true_and, and_true, beq_true, beq_false, Bool.true_beq, Bool.false_beq, BEq.rfl, Int.reduceEq, Int.reduceLT, Int.reduceLE, Nat.reduceEqDiff, decide_true, decide_false, Bool.not_true, Bool.not_false, Bool.and_true, Bool.true_and, Bool.and_false, Bool.false_and, Bool.or_true, Bool.true_or, Bool.or_false, Bool.false_or, Bool.not_not, hxy]))
    exact hK.sub
  · obtain ⟨g1, g2, g3⟩ := an hxy
    subst g1; subst g2; subst g3
    repeat' (first | (with_reducible refine G.joini0 ?_) | (with_reducible refine G.joini1 ?_) | (with_reducible refine G.drew ?_) | (simp (maxSteps := 2000000) only [↓RG, RP, true_and, and_true, beq_true, beq_false, Bool.true_beq, Bool.false_beq, BEq.rfl, Int.reduceEq, Int.reduceLT, Int.reduceLE, Nat.reduceEqDiff, decide_true, decide_false, Bool.not_true, Bool.not_false, Bool.and_true, Bool.true_and, Bool.and_false, Bool.false_and, Bool.or_true, Bool.true_or, Bool.or_false, Bool.false_or, Bool.not_not, hxy]))
    exact hK.sub

end
end Go.Proofs.Ytkghefbdhljgiaa.S
