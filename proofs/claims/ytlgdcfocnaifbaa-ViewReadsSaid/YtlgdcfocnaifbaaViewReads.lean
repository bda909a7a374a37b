/-
  CHAPTER 10: P10.2: what a read tells. Written by viewreads.py.
-/
import Derived.Test.YtlgdcfocnaifbaaViewLaw
namespace Go.Proofs.Ytlgdcfocnaifbaa.S
open Go Go.Proofs
set_option linter.unusedVariables false
set_option linter.unusedSimpArgs false

theorem how12 {how : Int} (h : 0 ≤ how ∧ how ≤ 255) : IntKind.wrap .u8 (BitVec.ofInt IntKind.u8.bits how &&& BitVec.ofInt IntKind.u8.bits 12).toNat = 4 ↔ (IntKind.wrap .u8 (BitVec.ofInt IntKind.u8.bits how &&& BitVec.ofInt IntKind.u8.bits 4).toNat = 4 ∧ ¬ IntKind.wrap .u8 (BitVec.ofInt IntKind.u8.bits how &&& BitVec.ofInt IntKind.u8.bits 8).toNat = 8) := by
  have key : ∀ n : Fin 256, IntKind.wrap .u8 (BitVec.ofInt IntKind.u8.bits (n.1 : Int) &&& BitVec.ofInt IntKind.u8.bits 12).toNat = 4 ↔ (IntKind.wrap .u8 (BitVec.ofInt IntKind.u8.bits (n.1 : Int) &&& BitVec.ofInt IntKind.u8.bits 4).toNat = 4 ∧ ¬ IntKind.wrap .u8 (BitVec.ofInt IntKind.u8.bits (n.1 : Int) &&& BitVec.ofInt IntKind.u8.bits 8).toNat = 8) := by decide +kernel
  have := key ⟨how.toNat, by omega⟩
  simp only at this
  rwa [show ((how.toNat : Nat) : Int) = how by omega] at this

section
variable {w0 : Base} {L M : List Asn} {K : KV}

theorem write_ok {k : List TCell} {l : LvS} {n x : Int} {kk : Nat} (hk : 1 ≤ kk ∧ kk < 64) (h1 : l.r.c = []) (h2 : l.room ≠ 0) : vWrite ⟨64, k, l, n⟩ (kk : Int) x = (⟨64, k, ⟨l.most, ⟨[⟨kk, x⟩], l.r.f⟩, l.up⟩, n⟩, 0) := by
  have h0 : lErr l (kk : Int) = 0 := by
    unfold lErr
    rw [if_pos (okAt_iff.2 ⟨by omega, by omega⟩)]
    split
    · rfl
    · first | rfl | rw [if_neg h2]
  unfold vWrite
  rw [if_pos (by simp [isV]; omega)]
  simp only [h0, if_true]
  simp [LvS.put, h1, putC]

set_option maxHeartbeats 4000000 in
theorem s_law10_ViewReads {at_ kn a b how : Int} (hn0 : inK .u8 at_) (hn4 : inK .u8 how) (hK : G w0 L (K (.bool true))) : G w0 L (CP Try.prog Fn.law10_ViewReads [.int .u8 at_, u64 kn, u64 a, u64 b, .int .u8 how] K) := by
  have g0 := inK_u8 hn0
  have g4 := inK_u8 hn4
  have h12 := how12 g4
  obtain ⟨kk, hkk, hk⟩ : ∃ kk : Nat, IntKind.wrap .i64 ((IntKind.wrap .i64 at_).tmod 63 + 1) = (kk : Int) ∧ (1 ≤ kk ∧ kk < 64) := by
    rw [wi64 (n := at_) (by omega) (by omega), Int.tmod_eq_emod_of_nonneg g0.1, wi64 (by omega) (by omega)]
    exact ⟨(at_ % 63 + 1).toNat, by omega, by omega, by omega⟩
  have hv : ∀ (k : List TCell) (l : LvS) (n : Int), isV ⟨64, k, l, n⟩ (kk : Int) = true := fun k l n => by simp [isV]; omega
  refine C_law10_ViewReads ?_
  unfold S_law10_ViewReads
  refine s_law10_ViewRuns ?_
  try simp (maxSteps := 2000000) only [fuse_and, fuse_or, fuse_step, fuse_pair, fuse_in, andP_true]
  try simp (maxSteps := 2000000) only [↓RG, RP, true_and, and_true, beq_true, beq_false, Bool.true_beq, Bool.false_beq, BEq.rfl, Int.reduceEq, Int.reduceLT, Int.reduceLE, Nat.reduceEqDiff, decide_true, decide_false, Bool.not_true, Bool.not_false, Bool.and_true, Bool.true_and, Bool.and_false, Bool.false_and, Bool.or_true, Bool.true_or, Bool.or_false, Bool.false_or, Bool.not_not]
  refine s_view_New fun v => ?_
  rw [show (held 64 32 256).toNat = 64 from rfl, show held 9 0 96 = 9 from rfl]
  try simp (maxSteps := 2000000) only [↓RG, RP, true_and, and_true, beq_true, beq_false, Bool.true_beq, Bool.false_beq, BEq.rfl, Int.reduceEq, Int.reduceLT, Int.reduceLE, Nat.reduceEqDiff, decide_true, decide_false, Bool.not_true, Bool.not_false, Bool.and_true, Bool.true_and, Bool.and_false, Bool.false_and, Bool.or_true, Bool.true_or, Bool.or_false, Bool.false_or, Bool.not_not, hkk]
  refine s_view_Read (b := v) (s := ⟨64, [], ⟨9, ⟨[], []⟩, []⟩, 0⟩) ?_
  rw [show vRead ⟨64, [], ⟨9, ⟨[], []⟩, []⟩, 0⟩ (kk : Int) = (⟨64, [], ⟨9, ⟨[], []⟩, []⟩, kk⟩, 0, 11) by unfold vRead; rw [if_pos (hv _ _ _)]; rfl]
  try simp (maxSteps := 2000000) only [↓RG, RP, true_and, and_true, beq_true, beq_false, Bool.true_beq, Bool.false_beq, BEq.rfl, Int.reduceEq, Int.reduceLT, Int.reduceLE, Nat.reduceEqDiff, decide_true, decide_false, Bool.not_true, Bool.not_false, Bool.and_true, Bool.true_and, Bool.and_false, Bool.false_and, Bool.or_true, Bool.true_or, Bool.or_false, Bool.false_or, Bool.not_not]
  refine s_view_Need (b := v) (s := ⟨64, [], ⟨9, ⟨[], []⟩, []⟩, kk⟩) ?_
  try simp (maxSteps := 2000000) only [↓RG, RP, true_and, and_true, beq_true, beq_false, Bool.true_beq, Bool.false_beq, BEq.rfl, Int.reduceEq, Int.reduceLT, Int.reduceLE, Nat.reduceEqDiff, decide_true, decide_false, Bool.not_true, Bool.not_false, Bool.and_true, Bool.true_and, Bool.and_false, Bool.false_and, Bool.or_true, Bool.true_or, Bool.or_false, Bool.false_or, Bool.not_not]
  by_cases hb1 : IntKind.wrap .u8 (BitVec.ofInt IntKind.u8.bits how &&& BitVec.ofInt IntKind.u8.bits 1).toNat = 1
  · skip
    by_cases hb2 : IntKind.wrap .u8 (BitVec.ofInt IntKind.u8.bits how &&& BitVec.ofInt IntKind.u8.bits 2).toNat = 2
    · skip
      by_cases hb4 : IntKind.wrap .u8 (BitVec.ofInt IntKind.u8.bits how &&& BitVec.ofInt IntKind.u8.bits 4).toNat = 4
      · skip
        by_cases hb8 : IntKind.wrap .u8 (BitVec.ofInt IntKind.u8.bits how &&& BitVec.ofInt IntKind.u8.bits 8).toNat = 8
        · skip
          have hc : ¬ (IntKind.wrap .u8 (BitVec.ofInt IntKind.u8.bits how &&& BitVec.ofInt IntKind.u8.bits 12).toNat = 4) := fun h => (h12.1 h).2 hb8
          try simp (maxSteps := 2000000) only [↓RG, RP, true_and, and_true, beq_true, beq_false, Bool.true_beq, Bool.false_beq, BEq.rfl, Int.reduceEq, Int.reduceLT, Int.reduceLE, Nat.reduceEqDiff, decide_true, decide_false, Bool.not_true, Bool.not_false, Bool.and_true, Bool.true_and, Bool.and_false, Bool.false_and, Bool.or_true, Bool.true_or, Bool.or_false, Bool.false_or, Bool.not_not, hb1, hb2, hb4, hb8, hc]
          refine s_view_Know (b := v) (s := ⟨64, [], ⟨9, ⟨[], []⟩, []⟩, kk⟩) (by simp) ?_
          rw [show vKnow ⟨64, [], ⟨9, ⟨[], []⟩, []⟩, kk⟩ (kk : Int) kn = (⟨64, [⟨kk, kn⟩], ⟨9, ⟨[], []⟩, []⟩, kk⟩, 0) by unfold vKnow; rw [if_pos (hv _ _ _)]; rfl]
          try simp (maxSteps := 2000000) only [↓RG, RP, true_and, and_true, beq_true, beq_false, Bool.true_beq, Bool.false_beq, BEq.rfl, Int.reduceEq, Int.reduceLT, Int.reduceLE, Nat.reduceEqDiff, decide_true, decide_false, Bool.not_true, Bool.not_false, Bool.and_true, Bool.true_and, Bool.and_false, Bool.false_and, Bool.or_true, Bool.true_or, Bool.or_false, Bool.false_or, Bool.not_not, hb1, hb2, hb4, hb8, hc]
          refine s_view_Write (b := v) (s := ⟨64, [⟨kk, kn⟩], ⟨9, ⟨[], []⟩, []⟩, kk⟩) ?_
          rw [write_ok hk rfl (by simp [LvS.room, totalC])]
          try simp (maxSteps := 2000000) only [↓RG, RP, true_and, and_true, beq_true, beq_false, Bool.true_beq, Bool.false_beq, BEq.rfl, Int.reduceEq, Int.reduceLT, Int.reduceLE, Nat.reduceEqDiff, decide_true, decide_false, Bool.not_true, Bool.not_false, Bool.and_true, Bool.true_and, Bool.and_false, Bool.false_and, Bool.or_true, Bool.true_or, Bool.or_false, Bool.false_or, Bool.not_not, hb1, hb2, hb4, hb8, hc]
          refine s_view_Open (b := v) (s := ⟨64, [⟨kk, kn⟩], ⟨9, ⟨[⟨kk, a⟩], []⟩, []⟩, kk⟩) ?_
          rw [show lOpen ⟨9, ⟨[⟨kk, a⟩], []⟩, []⟩ = (⟨9, ⟨[], []⟩, [⟨[⟨kk, a⟩], []⟩]⟩, 0) from rfl]
          try simp (maxSteps := 2000000) only [↓RG, RP, true_and, and_true, beq_true, beq_false, Bool.true_beq, Bool.false_beq, BEq.rfl, Int.reduceEq, Int.reduceLT, Int.reduceLE, Nat.reduceEqDiff, decide_true, decide_false, Bool.not_true, Bool.not_false, Bool.and_true, Bool.true_and, Bool.and_false, Bool.false_and, Bool.or_true, Bool.true_or, Bool.or_false, Bool.false_or, Bool.not_not, hb1, hb2, hb4, hb8, hc]
          refine s_view_Write (b := v) (s := ⟨64, [⟨kk, kn⟩], ⟨9, ⟨[], []⟩, [⟨[⟨kk, a⟩], []⟩]⟩, kk⟩) ?_
          rw [write_ok hk rfl (by simp [LvS.room, totalC])]
          try simp (maxSteps := 2000000) only [↓RG, RP, true_and, and_true, beq_true, beq_false, Bool.true_beq, Bool.false_beq, BEq.rfl, Int.reduceEq, Int.reduceLT, Int.reduceLE, Nat.reduceEqDiff, decide_true, decide_false, Bool.not_true, Bool.not_false, Bool.and_true, Bool.true_and, Bool.and_false, Bool.false_and, Bool.or_true, Bool.true_or, Bool.or_false, Bool.false_or, Bool.not_not, hb1, hb2, hb4, hb8, hc]
          refine G.joini0 ?_
          try simp (maxSteps := 2000000) only [↓RG, RP, true_and, and_true, beq_true, beq_false, Bool.true_beq, Bool.false_beq, BEq.rfl, Int.reduceEq, Int.reduceLT, Int.reduceLE, Nat.reduceEqDiff, decide_true, decide_false, Bool.not_true, Bool.not_false, Bool.and_true, Bool.true_and, Bool.and_false, Bool.false_and, Bool.or_true, Bool.true_or, Bool.or_false, Bool.false_or, Bool.not_not, hb1, hb2, hb4, hb8, hc]
          refine s_view_Drop (b := v) (s := ⟨64, [⟨kk, kn⟩], ⟨9, ⟨[⟨kk, b⟩], []⟩, [⟨[⟨kk, a⟩], []⟩]⟩, kk⟩) ?_
          rw [show lDrop ⟨9, ⟨[⟨kk, b⟩], []⟩, [⟨[⟨kk, a⟩], []⟩]⟩ = (⟨9, ⟨[⟨kk, a⟩], []⟩, []⟩, 0) from rfl]
          try simp (maxSteps := 2000000) only [↓RG, RP, true_and, and_true, beq_true, beq_false, Bool.true_beq, Bool.false_beq, BEq.rfl, Int.reduceEq, Int.reduceLT, Int.reduceLE, Nat.reduceEqDiff, decide_true, decide_false, Bool.not_true, Bool.not_false, Bool.and_true, Bool.true_and, Bool.and_false, Bool.false_and, Bool.or_true, Bool.true_or, Bool.or_false, Bool.false_or, Bool.not_not, hb1, hb2, hb4, hb8, hc]
          refine s_view_Read (b := v) (s := ⟨64, [⟨kk, kn⟩], ⟨9, ⟨[⟨kk, a⟩], []⟩, []⟩, kk⟩) ?_
          rw [show vRead ⟨64, [⟨kk, kn⟩], ⟨9, ⟨[⟨kk, a⟩], []⟩, []⟩, kk⟩ (kk : Int) = (⟨64, [⟨kk, kn⟩], ⟨9, ⟨[⟨kk, a⟩], []⟩, []⟩, kk⟩, a, 0) by unfold vRead; rw [if_pos (hv _ _ _)]; simp [lookR, lookC]]
          try simp (maxSteps := 2000000) only [↓RG, RP, true_and, and_true, beq_true, beq_false, Bool.true_beq, Bool.false_beq, BEq.rfl, Int.reduceEq, Int.reduceLT, Int.reduceLE, Nat.reduceEqDiff, decide_true, decide_false, Bool.not_true, Bool.not_false, Bool.and_true, Bool.true_and, Bool.and_false, Bool.false_and, Bool.or_true, Bool.true_or, Bool.or_false, Bool.false_or, Bool.not_not, hb1, hb2, hb4, hb8, hc]
          refine G.joini2 ?_
          try simp (maxSteps := 2000000) only [↓RG, RP, true_and, and_true, beq_true, beq_false, Bool.true_beq, Bool.false_beq, BEq.rfl, Int.reduceEq, Int.reduceLT, Int.reduceLE, Nat.reduceEqDiff, decide_true, decide_false, Bool.not_true, Bool.not_false, Bool.and_true, Bool.true_and, Bool.and_false, Bool.false_and, Bool.or_true, Bool.true_or, Bool.or_false, Bool.false_or, Bool.not_not, hb1, hb2, hb4, hb8, hc]
          refine G.joini2 ?_
          try simp (maxSteps := 2000000) only [↓RG, RP, true_and, and_true, beq_true, beq_false, Bool.true_beq, Bool.false_beq, BEq.rfl, Int.reduceEq, Int.reduceLT, Int.reduceLE, Nat.reduceEqDiff, decide_true, decide_false, Bool.not_true, Bool.not_false, Bool.and_true, Bool.true_and, Bool.and_false, Bool.false_and, Bool.or_true, Bool.true_or, Bool.or_false, Bool.false_or, Bool.not_not, hb1, hb2, hb4, hb8, hc]
          exact hK.sub
        · skip
          have hc : IntKind.wrap .u8 (BitVec.ofInt IntKind.u8.bits how &&& BitVec.ofInt IntKind.u8.bits 12).toNat = 4 := h12.2 ⟨hb4, hb8⟩
          try simp (maxSteps := 2000000) only [↓RG, RP, true_and, and_true, beq_true, beq_false, Bool.true_beq, Bool.false_beq, BEq.rfl, Int.reduceEq, Int.reduceLT, Int.reduceLE, Nat.reduceEqDiff, decide_true, decide_false, Bool.not_true, Bool.not_false, Bool.and_true, Bool.true_and, Bool.and_false, Bool.false_and, Bool.or_true, Bool.true_or, Bool.or_false, Bool.false_or, Bool.not_not, hb1, hb2, hb4, hb8, hc]
          refine s_view_Know (b := v) (s := ⟨64, [], ⟨9, ⟨[], []⟩, []⟩, kk⟩) (by simp) ?_
          rw [show vKnow ⟨64, [], ⟨9, ⟨[], []⟩, []⟩, kk⟩ (kk : Int) kn = (⟨64, [⟨kk, kn⟩], ⟨9, ⟨[], []⟩, []⟩, kk⟩, 0) by unfold vKnow; rw [if_pos (hv _ _ _)]; rfl]
          try simp (maxSteps := 2000000) only [↓RG, RP, true_and, and_true, beq_true, beq_false, Bool.true_beq, Bool.false_beq, BEq.rfl, Int.reduceEq, Int.reduceLT, Int.reduceLE, Nat.reduceEqDiff, decide_true, decide_false, Bool.not_true, Bool.not_false, Bool.and_true, Bool.true_and, Bool.and_false, Bool.false_and, Bool.or_true, Bool.true_or, Bool.or_false, Bool.false_or, Bool.not_not, hb1, hb2, hb4, hb8, hc]
          refine s_view_Write (b := v) (s := ⟨64, [⟨kk, kn⟩], ⟨9, ⟨[], []⟩, []⟩, kk⟩) ?_
          rw [write_ok hk rfl (by simp [LvS.room, totalC])]
          try simp (maxSteps := 2000000) only [↓RG, RP, true_and, and_true, beq_true, beq_false, Bool.true_beq, Bool.false_beq, BEq.rfl, Int.reduceEq, Int.reduceLT, Int.reduceLE, Nat.reduceEqDiff, decide_true, decide_false, Bool.not_true, Bool.not_false, Bool.and_true, Bool.true_and, Bool.and_false, Bool.false_and, Bool.or_true, Bool.true_or, Bool.or_false, Bool.false_or, Bool.not_not, hb1, hb2, hb4, hb8, hc]
          refine s_view_Open (b := v) (s := ⟨64, [⟨kk, kn⟩], ⟨9, ⟨[⟨kk, a⟩], []⟩, []⟩, kk⟩) ?_
          rw [show lOpen ⟨9, ⟨[⟨kk, a⟩], []⟩, []⟩ = (⟨9, ⟨[], []⟩, [⟨[⟨kk, a⟩], []⟩]⟩, 0) from rfl]
          try simp (maxSteps := 2000000) only [↓RG, RP, true_and, and_true, beq_true, beq_false, Bool.true_beq, Bool.false_beq, BEq.rfl, Int.reduceEq, Int.reduceLT, Int.reduceLE, Nat.reduceEqDiff, decide_true, decide_false, Bool.not_true, Bool.not_false, Bool.and_true, Bool.true_and, Bool.and_false, Bool.false_and, Bool.or_true, Bool.true_or, Bool.or_false, Bool.false_or, Bool.not_not, hb1, hb2, hb4, hb8, hc]
          refine s_view_Write (b := v) (s := ⟨64, [⟨kk, kn⟩], ⟨9, ⟨[], []⟩, [⟨[⟨kk, a⟩], []⟩]⟩, kk⟩) ?_
          rw [write_ok hk rfl (by simp [LvS.room, totalC])]
          try simp (maxSteps := 2000000) only [↓RG, RP, true_and, and_true, beq_true, beq_false, Bool.true_beq, Bool.false_beq, BEq.rfl, Int.reduceEq, Int.reduceLT, Int.reduceLE, Nat.reduceEqDiff, decide_true, decide_false, Bool.not_true, Bool.not_false, Bool.and_true, Bool.true_and, Bool.and_false, Bool.false_and, Bool.or_true, Bool.true_or, Bool.or_false, Bool.false_or, Bool.not_not, hb1, hb2, hb4, hb8, hc]
          refine G.joini0 ?_
          try simp (maxSteps := 2000000) only [↓RG, RP, true_and, and_true, beq_true, beq_false, Bool.true_beq, Bool.false_beq, BEq.rfl, Int.reduceEq, Int.reduceLT, Int.reduceLE, Nat.reduceEqDiff, decide_true, decide_false, Bool.not_true, Bool.not_false, Bool.and_true, Bool.true_and, Bool.and_false, Bool.false_and, Bool.or_true, Bool.true_or, Bool.or_false, Bool.false_or, Bool.not_not, hb1, hb2, hb4, hb8, hc]
          refine s_view_Keep (b := v) (s := ⟨64, [⟨kk, kn⟩], ⟨9, ⟨[⟨kk, b⟩], []⟩, [⟨[⟨kk, a⟩], []⟩]⟩, kk⟩) (by simp [LvS.frees, freesR]) ?_
          rw [show lKeep ⟨9, ⟨[⟨kk, b⟩], []⟩, [⟨[⟨kk, a⟩], []⟩]⟩ = (⟨9, ⟨[⟨kk, b⟩], []⟩, []⟩, 0) by simp [lKeep, putsC, putC]]
          try simp (maxSteps := 2000000) only [↓RG, RP, true_and, and_true, beq_true, beq_false, Bool.true_beq, Bool.false_beq, BEq.rfl, Int.reduceEq, Int.reduceLT, Int.reduceLE, Nat.reduceEqDiff, decide_true, decide_false, Bool.not_true, Bool.not_false, Bool.and_true, Bool.true_and, Bool.and_false, Bool.false_and, Bool.or_true, Bool.true_or, Bool.or_false, Bool.false_or, Bool.not_not, hb1, hb2, hb4, hb8, hc]
          refine s_view_Read (b := v) (s := ⟨64, [⟨kk, kn⟩], ⟨9, ⟨[⟨kk, b⟩], []⟩, []⟩, kk⟩) ?_
          rw [show vRead ⟨64, [⟨kk, kn⟩], ⟨9, ⟨[⟨kk, b⟩], []⟩, []⟩, kk⟩ (kk : Int) = (⟨64, [⟨kk, kn⟩], ⟨9, ⟨[⟨kk, b⟩], []⟩, []⟩, kk⟩, b, 0) by unfold vRead; rw [if_pos (hv _ _ _)]; simp [lookR, lookC]]
          try simp (maxSteps := 2000000) only [↓RG, RP, true_and, and_true, beq_true, beq_false, Bool.true_beq, Bool.false_beq, BEq.rfl, Int.reduceEq, Int.reduceLT, Int.reduceLE, Nat.reduceEqDiff, decide_true, decide_false, Bool.not_true, Bool.not_false, Bool.and_true, Bool.true_and, Bool.and_false, Bool.false_and, Bool.or_true, Bool.true_or, Bool.or_false, Bool.false_or, Bool.not_not, hb1, hb2, hb4, hb8, hc]
          refine G.joini2 ?_
          try simp (maxSteps := 2000000) only [↓RG, RP, true_and, and_true, beq_true, beq_false, Bool.true_beq, Bool.false_beq, BEq.rfl, Int.reduceEq, Int.reduceLT, Int.reduceLE, Nat.reduceEqDiff, decide_true, decide_false, Bool.not_true, Bool.not_false, Bool.and_true, Bool.true_and, Bool.and_false, Bool.false_and, Bool.or_true, Bool.true_or, Bool.or_false, Bool.false_or, Bool.not_not, hb1, hb2, hb4, hb8, hc]
          refine G.joini2 ?_
          try simp (maxSteps := 2000000) only [↓RG, RP, true_and, and_true, beq_true, beq_false, Bool.true_beq, Bool.false_beq, BEq.rfl, Int.reduceEq, Int.reduceLT, Int.reduceLE, Nat.reduceEqDiff, decide_true, decide_false, Bool.not_true, Bool.not_false, Bool.and_true, Bool.true_and, Bool.and_false, Bool.false_and, Bool.or_true, Bool.true_or, Bool.or_false, Bool.false_or, Bool.not_not, hb1, hb2, hb4, hb8, hc]
          exact hK.sub
      · skip
        by_cases hb8 : IntKind.wrap .u8 (BitVec.ofInt IntKind.u8.bits how &&& BitVec.ofInt IntKind.u8.bits 8).toNat = 8
        · skip
          have hc : ¬ (IntKind.wrap .u8 (BitVec.ofInt IntKind.u8.bits how &&& BitVec.ofInt IntKind.u8.bits 12).toNat = 4) := fun h => hb4 (h12.1 h).1
          try simp (maxSteps := 2000000) only [↓RG, RP, true_and, and_true, beq_true, beq_false, Bool.true_beq, Bool.false_beq, BEq.rfl, Int.reduceEq, Int.reduceLT, Int.reduceLE, Nat.reduceEqDiff, decide_true, decide_false, Bool.not_true, Bool.not_false, Bool.and_true, Bool.true_and, Bool.and_false, Bool.false_and, Bool.or_true, Bool.true_or, Bool.or_false, Bool.false_or, Bool.not_not, hb1, hb2, hb4, hb8, hc]
          refine s_view_Know (b := v) (s := ⟨64, [], ⟨9, ⟨[], []⟩, []⟩, kk⟩) (by simp) ?_
          rw [show vKnow ⟨64, [], ⟨9, ⟨[], []⟩, []⟩, kk⟩ (kk : Int) kn = (⟨64, [⟨kk, kn⟩], ⟨9, ⟨[], []⟩, []⟩, kk⟩, 0) by unfold vKnow; rw [if_pos (hv _ _ _)]; rfl]
          try simp (maxSteps := 2000000) only [↓RG, RP, true_and, and_true, beq_true, beq_false, Bool.true_beq, Bool.false_beq, BEq.rfl, Int.reduceEq, Int.reduceLT, Int.reduceLE, Nat.reduceEqDiff, decide_true, decide_false, Bool.not_true, Bool.not_false, Bool.and_true, Bool.true_and, Bool.and_false, Bool.false_and, Bool.or_true, Bool.true_or, Bool.or_false, Bool.false_or, Bool.not_not, hb1, hb2, hb4, hb8, hc]
          refine s_view_Write (b := v) (s := ⟨64, [⟨kk, kn⟩], ⟨9, ⟨[], []⟩, []⟩, kk⟩) ?_
          rw [write_ok hk rfl (by simp [LvS.room, totalC])]
          try simp (maxSteps := 2000000) only [↓RG, RP, true_and, and_true, beq_true, beq_false, Bool.true_beq, Bool.false_beq, BEq.rfl, Int.reduceEq, Int.reduceLT, Int.reduceLE, Nat.reduceEqDiff, decide_true, decide_false, Bool.not_true, Bool.not_false, Bool.and_true, Bool.true_and, Bool.and_false, Bool.false_and, Bool.or_true, Bool.true_or, Bool.or_false, Bool.false_or, Bool.not_not, hb1, hb2, hb4, hb8, hc]
          refine s_view_Open (b := v) (s := ⟨64, [⟨kk, kn⟩], ⟨9, ⟨[⟨kk, a⟩], []⟩, []⟩, kk⟩) ?_
          rw [show lOpen ⟨9, ⟨[⟨kk, a⟩], []⟩, []⟩ = (⟨9, ⟨[], []⟩, [⟨[⟨kk, a⟩], []⟩]⟩, 0) from rfl]
          try simp (maxSteps := 2000000) only [↓RG, RP, true_and, and_true, beq_true, beq_false, Bool.true_beq, Bool.false_beq, BEq.rfl, Int.reduceEq, Int.reduceLT, Int.reduceLE, Nat.reduceEqDiff, decide_true, decide_false, Bool.not_true, Bool.not_false, Bool.and_true, Bool.true_and, Bool.and_false, Bool.false_and, Bool.or_true, Bool.true_or, Bool.or_false, Bool.false_or, Bool.not_not, hb1, hb2, hb4, hb8, hc]
          refine G.joini0 ?_
          try simp (maxSteps := 2000000) only [↓RG, RP, true_and, and_true, beq_true, beq_false, Bool.true_beq, Bool.false_beq, BEq.rfl, Int.reduceEq, Int.reduceLT, Int.reduceLE, Nat.reduceEqDiff, decide_true, decide_false, Bool.not_true, Bool.not_false, Bool.and_true, Bool.true_and, Bool.and_false, Bool.false_and, Bool.or_true, Bool.true_or, Bool.or_false, Bool.false_or, Bool.not_not, hb1, hb2, hb4, hb8, hc]
          refine s_view_Drop (b := v) (s := ⟨64, [⟨kk, kn⟩], ⟨9, ⟨[], []⟩, [⟨[⟨kk, a⟩], []⟩]⟩, kk⟩) ?_
          rw [show lDrop ⟨9, ⟨[], []⟩, [⟨[⟨kk, a⟩], []⟩]⟩ = (⟨9, ⟨[⟨kk, a⟩], []⟩, []⟩, 0) from rfl]
          try simp (maxSteps := 2000000) only [↓RG, RP, true_and, and_true, beq_true, beq_false, Bool.true_beq, Bool.false_beq, BEq.rfl, Int.reduceEq, Int.reduceLT, Int.reduceLE, Nat.reduceEqDiff, decide_true, decide_false, Bool.not_true, Bool.not_false, Bool.and_true, Bool.true_and, Bool.and_false, Bool.false_and, Bool.or_true, Bool.true_or, Bool.or_false, Bool.false_or, Bool.not_not, hb1, hb2, hb4, hb8, hc]
          refine s_view_Read (b := v) (s := ⟨64, [⟨kk, kn⟩], ⟨9, ⟨[⟨kk, a⟩], []⟩, []⟩, kk⟩) ?_
          rw [show vRead ⟨64, [⟨kk, kn⟩], ⟨9, ⟨[⟨kk, a⟩], []⟩, []⟩, kk⟩ (kk : Int) = (⟨64, [⟨kk, kn⟩], ⟨9, ⟨[⟨kk, a⟩], []⟩, []⟩, kk⟩, a, 0) by unfold vRead; rw [if_pos (hv _ _ _)]; simp [lookR, lookC]]
          try simp (maxSteps := 2000000) only [↓RG, RP, true_and, and_true, beq_true, beq_false, Bool.true_beq, Bool.false_beq, BEq.rfl, Int.reduceEq, Int.reduceLT, Int.reduceLE, Nat.reduceEqDiff, decide_true, decide_false, Bool.not_true, Bool.not_false, Bool.and_true, Bool.true_and, Bool.and_false, Bool.false_and, Bool.or_true, Bool.true_or, Bool.or_false, Bool.false_or, Bool.not_not, hb1, hb2, hb4, hb8, hc]
          refine G.joini2 ?_
          try simp (maxSteps := 2000000) only [↓RG, RP, true_and, and_true, beq_true, beq_false, Bool.true_beq, Bool.false_beq, BEq.rfl, Int.reduceEq, Int.reduceLT, Int.reduceLE, Nat.reduceEqDiff, decide_true, decide_false, Bool.not_true, Bool.not_false, Bool.and_true, Bool.true_and, Bool.and_false, Bool.false_and, Bool.or_true, Bool.true_or, Bool.or_false, Bool.false_or, Bool.not_not, hb1, hb2, hb4, hb8, hc]
          refine G.joini2 ?_
          try simp (maxSteps := 2000000) only [↓RG, RP, true_and, and_true, beq_true, beq_false, Bool.true_beq, Bool.false_beq, BEq.rfl, Int.reduceEq, Int.reduceLT, Int.reduceLE, Nat.reduceEqDiff, decide_true, decide_false, Bool.not_true, Bool.not_false, Bool.and_true, Bool.true_and, Bool.and_false, Bool.false_and, Bool.or_true, Bool.true_or, Bool.or_false, Bool.false_or, Bool.not_not, hb1, hb2, hb4, hb8, hc]
          exact hK.sub
        · skip
          have hc : ¬ (IntKind.wrap .u8 (BitVec.ofInt IntKind.u8.bits how &&& BitVec.ofInt IntKind.u8.bits 12).toNat = 4) := fun h => hb4 (h12.1 h).1
          try simp (maxSteps := 2000000) only [↓RG, RP, true_and, and_true, beq_true, beq_false, Bool.true_beq, Bool.false_beq, BEq.rfl, Int.reduceEq, Int.reduceLT, Int.reduceLE, Nat.reduceEqDiff, decide_true, decide_false, Bool.not_true, Bool.not_false, Bool.and_true, Bool.true_and, Bool.and_false, Bool.false_and, Bool.or_true, Bool.true_or, Bool.or_false, Bool.false_or, Bool.not_not, hb1, hb2, hb4, hb8, hc]
          refine s_view_Know (b := v) (s := ⟨64, [], ⟨9, ⟨[], []⟩, []⟩, kk⟩) (by simp) ?_
          rw [show vKnow ⟨64, [], ⟨9, ⟨[], []⟩, []⟩, kk⟩ (kk : Int) kn = (⟨64, [⟨kk, kn⟩], ⟨9, ⟨[], []⟩, []⟩, kk⟩, 0) by unfold vKnow; rw [if_pos (hv _ _ _)]; rfl]
          try simp (maxSteps := 2000000) only [↓RG, RP, true_and, and_true, beq_true, beq_false, Bool.true_beq, Bool.false_beq, BEq.rfl, Int.reduceEq, Int.reduceLT, Int.reduceLE, Nat.reduceEqDiff, decide_true, decide_false, Bool.not_true, Bool.not_false, Bool.and_true, Bool.true_and, Bool.and_false, Bool.false_and, Bool.or_true, Bool.true_or, Bool.or_false, Bool.false_or, Bool.not_not, hb1, hb2, hb4, hb8, hc]
          refine s_view_Write (b := v) (s := ⟨64, [⟨kk, kn⟩], ⟨9, ⟨[], []⟩, []⟩, kk⟩) ?_
          rw [write_ok hk rfl (by simp [LvS.room, totalC])]
          try simp (maxSteps := 2000000) only [↓RG, RP, true_and, and_true, beq_true, beq_false, Bool.true_beq, Bool.false_beq, BEq.rfl, Int.reduceEq, Int.reduceLT, Int.reduceLE, Nat.reduceEqDiff, decide_true, decide_false, Bool.not_true, Bool.not_false, Bool.and_true, Bool.true_and, Bool.and_false, Bool.false_and, Bool.or_true, Bool.true_or, Bool.or_false, Bool.false_or, Bool.not_not, hb1, hb2, hb4, hb8, hc]
          refine s_view_Open (b := v) (s := ⟨64, [⟨kk, kn⟩], ⟨9, ⟨[⟨kk, a⟩], []⟩, []⟩, kk⟩) ?_
          rw [show lOpen ⟨9, ⟨[⟨kk, a⟩], []⟩, []⟩ = (⟨9, ⟨[], []⟩, [⟨[⟨kk, a⟩], []⟩]⟩, 0) from rfl]
          try simp (maxSteps := 2000000) only [↓RG, RP, true_and, and_true, beq_true, beq_false, Bool.true_beq, Bool.false_beq, BEq.rfl, Int.reduceEq, Int.reduceLT, Int.reduceLE, Nat.reduceEqDiff, decide_true, decide_false, Bool.not_true, Bool.not_false, Bool.and_true, Bool.true_and, Bool.and_false, Bool.false_and, Bool.or_true, Bool.true_or, Bool.or_false, Bool.false_or, Bool.not_not, hb1, hb2, hb4, hb8, hc]
          refine G.joini0 ?_
          try simp (maxSteps := 2000000) only [↓RG, RP, true_and, and_true, beq_true, beq_false, Bool.true_beq, Bool.false_beq, BEq.rfl, Int.reduceEq, Int.reduceLT, Int.reduceLE, Nat.reduceEqDiff, decide_true, decide_false, Bool.not_true, Bool.not_false, Bool.and_true, Bool.true_and, Bool.and_false, Bool.false_and, Bool.or_true, Bool.true_or, Bool.or_false, Bool.false_or, Bool.not_not, hb1, hb2, hb4, hb8, hc]
          refine s_view_Keep (b := v) (s := ⟨64, [⟨kk, kn⟩], ⟨9, ⟨[], []⟩, [⟨[⟨kk, a⟩], []⟩]⟩, kk⟩) (by simp [LvS.frees, freesR]) ?_
          rw [show lKeep ⟨9, ⟨[], []⟩, [⟨[⟨kk, a⟩], []⟩]⟩ = (⟨9, ⟨[⟨kk, a⟩], []⟩, []⟩, 0) by simp [lKeep, putsC, putC]]
          try simp (maxSteps := 2000000) only [↓RG, RP, true_and, and_true, beq_true, beq_false, Bool.true_beq, Bool.false_beq, BEq.rfl, Int.reduceEq, Int.reduceLT, Int.reduceLE, Nat.reduceEqDiff, decide_true, decide_false, Bool.not_true, Bool.not_false, Bool.and_true, Bool.true_and, Bool.and_false, Bool.false_and, Bool.or_true, Bool.true_or, Bool.or_false, Bool.false_or, Bool.not_not, hb1, hb2, hb4, hb8, hc]
          refine s_view_Read (b := v) (s := ⟨64, [⟨kk, kn⟩], ⟨9, ⟨[⟨kk, a⟩], []⟩, []⟩, kk⟩) ?_
          rw [show vRead ⟨64, [⟨kk, kn⟩], ⟨9, ⟨[⟨kk, a⟩], []⟩, []⟩, kk⟩ (kk : Int) = (⟨64, [⟨kk, kn⟩], ⟨9, ⟨[⟨kk, a⟩], []⟩, []⟩, kk⟩, a, 0) by unfold vRead; rw [if_pos (hv _ _ _)]; simp [lookR, lookC]]
          try simp (maxSteps := 2000000) only [↓RG, RP, true_and, and_true, beq_true, beq_false, Bool.true_beq, Bool.false_beq, BEq.rfl, Int.reduceEq, Int.reduceLT, Int.reduceLE, Nat.reduceEqDiff, decide_true, decide_false, Bool.not_true, Bool.not_false, Bool.and_true, Bool.true_and, Bool.and_false, Bool.false_and, Bool.or_true, Bool.true_or, Bool.or_false, Bool.false_or, Bool.not_not, hb1, hb2, hb4, hb8, hc]
          refine G.joini2 ?_
          try simp (maxSteps := 2000000) only [↓RG, RP, true_and, and_true, beq_true, beq_false, Bool.true_beq, Bool.false_beq, BEq.rfl, Int.reduceEq, Int.reduceLT, Int.reduceLE, Nat.reduceEqDiff, decide_true, decide_false, Bool.not_true, Bool.not_false, Bool.and_true, Bool.true_and, Bool.and_false, Bool.false_and, Bool.or_true, Bool.true_or, Bool.or_false, Bool.false_or, Bool.not_not, hb1, hb2, hb4, hb8, hc]
          refine G.joini2 ?_
          try simp (maxSteps := 2000000) only [↓RG, RP, true_and, and_true, beq_true, beq_false, Bool.true_beq, Bool.false_beq, BEq.rfl, Int.reduceEq, Int.reduceLT, Int.reduceLE, Nat.reduceEqDiff, decide_true, decide_false, Bool.not_true, Bool.not_false, Bool.and_true, Bool.true_and, Bool.and_false, Bool.false_and, Bool.or_true, Bool.true_or, Bool.or_false, Bool.false_or, Bool.not_not, hb1, hb2, hb4, hb8, hc]
          exact hK.sub
    · skip
      by_cases hb4 : IntKind.wrap .u8 (BitVec.ofInt IntKind.u8.bits how &&& BitVec.ofInt IntKind.u8.bits 4).toNat = 4
      · skip
        by_cases hb8 : IntKind.wrap .u8 (BitVec.ofInt IntKind.u8.bits how &&& BitVec.ofInt IntKind.u8.bits 8).toNat = 8
        · skip
          have hc : ¬ (IntKind.wrap .u8 (BitVec.ofInt IntKind.u8.bits how &&& BitVec.ofInt IntKind.u8.bits 12).toNat = 4) := fun h => (h12.1 h).2 hb8
          try simp (maxSteps := 2000000) only [↓RG, RP, true_and, and_true, beq_true, beq_false, Bool.true_beq, Bool.false_beq, BEq.rfl, Int.reduceEq, Int.reduceLT, Int.reduceLE, Nat.reduceEqDiff, decide_true, decide_false, Bool.not_true, Bool.not_false, Bool.and_true, Bool.true_and, Bool.and_false, Bool.false_and, Bool.or_true, Bool.true_or, Bool.or_false, Bool.false_or, Bool.not_not, hb1, hb2, hb4, hb8, hc]
          refine s_view_Know (b := v) (s := ⟨64, [], ⟨9, ⟨[], []⟩, []⟩, kk⟩) (by simp) ?_
          rw [show vKnow ⟨64, [], ⟨9, ⟨[], []⟩, []⟩, kk⟩ (kk : Int) kn = (⟨64, [⟨kk, kn⟩], ⟨9, ⟨[], []⟩, []⟩, kk⟩, 0) by unfold vKnow; rw [if_pos (hv _ _ _)]; rfl]
          try simp (maxSteps := 2000000) only [↓RG, RP, true_and, and_true, beq_true, beq_false, Bool.true_beq, Bool.false_beq, BEq.rfl, Int.reduceEq, Int.reduceLT, Int.reduceLE, Nat.reduceEqDiff, decide_true, decide_false, Bool.not_true, Bool.not_false, Bool.and_true, Bool.true_and, Bool.and_false, Bool.false_and, Bool.or_true, Bool.true_or, Bool.or_false, Bool.false_or, Bool.not_not, hb1, hb2, hb4, hb8, hc]
          refine s_view_Open (b := v) (s := ⟨64, [⟨kk, kn⟩], ⟨9, ⟨[], []⟩, []⟩, kk⟩) ?_
          rw [show lOpen ⟨9, ⟨[], []⟩, []⟩ = (⟨9, ⟨[], []⟩, [⟨[], []⟩]⟩, 0) from rfl]
          try simp (maxSteps := 2000000) only [↓RG, RP, true_and, and_true, beq_true, beq_false, Bool.true_beq, Bool.false_beq, BEq.rfl, Int.reduceEq, Int.reduceLT, Int.reduceLE, Nat.reduceEqDiff, decide_true, decide_false, Bool.not_true, Bool.not_false, Bool.and_true, Bool.true_and, Bool.and_false, Bool.false_and, Bool.or_true, Bool.true_or, Bool.or_false, Bool.false_or, Bool.not_not, hb1, hb2, hb4, hb8, hc]
          refine s_view_Write (b := v) (s := ⟨64, [⟨kk, kn⟩], ⟨9, ⟨[], []⟩, [⟨[], []⟩]⟩, kk⟩) ?_
          rw [write_ok hk rfl (by simp [LvS.room, totalC])]
          try simp (maxSteps := 2000000) only [↓RG, RP, true_and, and_true, beq_true, beq_false, Bool.true_beq, Bool.false_beq, BEq.rfl, Int.reduceEq, Int.reduceLT, Int.reduceLE, Nat.reduceEqDiff, decide_true, decide_false, Bool.not_true, Bool.not_false, Bool.and_true, Bool.true_and, Bool.and_false, Bool.false_and, Bool.or_true, Bool.true_or, Bool.or_false, Bool.false_or, Bool.not_not, hb1, hb2, hb4, hb8, hc]
          refine G.joini0 ?_
          try simp (maxSteps := 2000000) only [↓RG, RP, true_and, and_true, beq_true, beq_false, Bool.true_beq, Bool.false_beq, BEq.rfl, Int.reduceEq, Int.reduceLT, Int.reduceLE, Nat.reduceEqDiff, decide_true, decide_false, Bool.not_true, Bool.not_false, Bool.and_true, Bool.true_and, Bool.and_false, Bool.false_and, Bool.or_true, Bool.true_or, Bool.or_false, Bool.false_or, Bool.not_not, hb1, hb2, hb4, hb8, hc]
          refine s_view_Drop (b := v) (s := ⟨64, [⟨kk, kn⟩], ⟨9, ⟨[⟨kk, b⟩], []⟩, [⟨[], []⟩]⟩, kk⟩) ?_
          rw [show lDrop ⟨9, ⟨[⟨kk, b⟩], []⟩, [⟨[], []⟩]⟩ = (⟨9, ⟨[], []⟩, []⟩, 0) from rfl]
          try simp (maxSteps := 2000000) only [↓RG, RP, true_and, and_true, beq_true, beq_false, Bool.true_beq, Bool.false_beq, BEq.rfl, Int.reduceEq, Int.reduceLT, Int.reduceLE, Nat.reduceEqDiff, decide_true, decide_false, Bool.not_true, Bool.not_false, Bool.and_true, Bool.true_and, Bool.and_false, Bool.false_and, Bool.or_true, Bool.true_or, Bool.or_false, Bool.false_or, Bool.not_not, hb1, hb2, hb4, hb8, hc]
          refine s_view_Read (b := v) (s := ⟨64, [⟨kk, kn⟩], ⟨9, ⟨[], []⟩, []⟩, kk⟩) ?_
          rw [show vRead ⟨64, [⟨kk, kn⟩], ⟨9, ⟨[], []⟩, []⟩, kk⟩ (kk : Int) = (⟨64, [⟨kk, kn⟩], ⟨9, ⟨[], []⟩, []⟩, kk⟩, kn, 0) by unfold vRead; rw [if_pos (hv _ _ _)]; simp [lookR, lookC]]
          try simp (maxSteps := 2000000) only [↓RG, RP, true_and, and_true, beq_true, beq_false, Bool.true_beq, Bool.false_beq, BEq.rfl, Int.reduceEq, Int.reduceLT, Int.reduceLE, Nat.reduceEqDiff, decide_true, decide_false, Bool.not_true, Bool.not_false, Bool.and_true, Bool.true_and, Bool.and_false, Bool.false_and, Bool.or_true, Bool.true_or, Bool.or_false, Bool.false_or, Bool.not_not, hb1, hb2, hb4, hb8, hc]
          refine G.joini2 ?_
          try simp (maxSteps := 2000000) only [↓RG, RP, true_and, and_true, beq_true, beq_false, Bool.true_beq, Bool.false_beq, BEq.rfl, Int.reduceEq, Int.reduceLT, Int.reduceLE, Nat.reduceEqDiff, decide_true, decide_false, Bool.not_true, Bool.not_false, Bool.and_true, Bool.true_and, Bool.and_false, Bool.false_and, Bool.or_true, Bool.true_or, Bool.or_false, Bool.false_or, Bool.not_not, hb1, hb2, hb4, hb8, hc]
          refine G.joini2 ?_
          try simp (maxSteps := 2000000) only [↓RG, RP, true_and, and_true, beq_true, beq_false, Bool.true_beq, Bool.false_beq, BEq.rfl, Int.reduceEq, Int.reduceLT, Int.reduceLE, Nat.reduceEqDiff, decide_true, decide_false, Bool.not_true, Bool.not_false, Bool.and_true, Bool.true_and, Bool.and_false, Bool.false_and, Bool.or_true, Bool.true_or, Bool.or_false, Bool.false_or, Bool.not_not, hb1, hb2, hb4, hb8, hc]
          exact hK.sub
        · skip
          have hc : IntKind.wrap .u8 (BitVec.ofInt IntKind.u8.bits how &&& BitVec.ofInt IntKind.u8.bits 12).toNat = 4 := h12.2 ⟨hb4, hb8⟩
          try simp (maxSteps := 2000000) only [↓RG, RP, true_and, and_true, beq_true, beq_false, Bool.true_beq, Bool.false_beq, BEq.rfl, Int.reduceEq, Int.reduceLT, Int.reduceLE, Nat.reduceEqDiff, decide_true, decide_false, Bool.not_true, Bool.not_false, Bool.and_true, Bool.true_and, Bool.and_false, Bool.false_and, Bool.or_true, Bool.true_or, Bool.or_false, Bool.false_or, Bool.not_not, hb1, hb2, hb4, hb8, hc]
          refine s_view_Know (b := v) (s := ⟨64, [], ⟨9, ⟨[], []⟩, []⟩, kk⟩) (by simp) ?_
          rw [show vKnow ⟨64, [], ⟨9, ⟨[], []⟩, []⟩, kk⟩ (kk : Int) kn = (⟨64, [⟨kk, kn⟩], ⟨9, ⟨[], []⟩, []⟩, kk⟩, 0) by unfold vKnow; rw [if_pos (hv _ _ _)]; rfl]
          try simp (maxSteps := 2000000) only [↓RG, RP, true_and, and_true, beq_true, beq_false, Bool.true_beq, Bool.false_beq, BEq.rfl, Int.reduceEq, Int.reduceLT, Int.reduceLE, Nat.reduceEqDiff, decide_true, decide_false, Bool.not_true, Bool.not_false, Bool.and_true, Bool.true_and, Bool.and_false, Bool.false_and, Bool.or_true, Bool.true_or, Bool.or_false, Bool.false_or, Bool.not_not, hb1, hb2, hb4, hb8, hc]
          refine s_view_Open (b := v) (s := ⟨64, [⟨kk, kn⟩], ⟨9, ⟨[], []⟩, []⟩, kk⟩) ?_
          rw [show lOpen ⟨9, ⟨[], []⟩, []⟩ = (⟨9, ⟨[], []⟩, [⟨[], []⟩]⟩, 0) from rfl]
          try simp (maxSteps := 2000000) only [↓RG, RP, true_and, and_true, beq_true, beq_false, Bool.true_beq, Bool.false_beq, BEq.rfl, Int.reduceEq, Int.reduceLT, Int.reduceLE, Nat.reduceEqDiff, decide_true, decide_false, Bool.not_true, Bool.not_false, Bool.and_true, Bool.true_and, Bool.and_false, Bool.false_and, Bool.or_true, Bool.true_or, Bool.or_false, Bool.false_or, Bool.not_not, hb1, hb2, hb4, hb8, hc]
          refine s_view_Write (b := v) (s := ⟨64, [⟨kk, kn⟩], ⟨9, ⟨[], []⟩, [⟨[], []⟩]⟩, kk⟩) ?_
          rw [write_ok hk rfl (by simp [LvS.room, totalC])]
          try simp (maxSteps := 2000000) only [↓RG, RP, true_and, and_true, beq_true, beq_false, Bool.true_beq, Bool.false_beq, BEq.rfl, Int.reduceEq, Int.reduceLT, Int.reduceLE, Nat.reduceEqDiff, decide_true, decide_false, Bool.not_true, Bool.not_false, Bool.and_true, Bool.true_and, Bool.and_false, Bool.false_and, Bool.or_true, Bool.true_or, Bool.or_false, Bool.false_or, Bool.not_not, hb1, hb2, hb4, hb8, hc]
          refine G.joini0 ?_
          try simp (maxSteps := 2000000) only [↓RG, RP, true_and, and_true, beq_true, beq_false, Bool.true_beq, Bool.false_beq, BEq.rfl, Int.reduceEq, Int.reduceLT, Int.reduceLE, Nat.reduceEqDiff, decide_true, decide_false, Bool.not_true, Bool.not_false, Bool.and_true, Bool.true_and, Bool.and_false, Bool.false_and, Bool.or_true, Bool.true_or, Bool.or_false, Bool.false_or, Bool.not_not, hb1, hb2, hb4, hb8, hc]
          refine s_view_Keep (b := v) (s := ⟨64, [⟨kk, kn⟩], ⟨9, ⟨[⟨kk, b⟩], []⟩, [⟨[], []⟩]⟩, kk⟩) (by simp [LvS.frees, freesR]) ?_
          rw [show lKeep ⟨9, ⟨[⟨kk, b⟩], []⟩, [⟨[], []⟩]⟩ = (⟨9, ⟨[⟨kk, b⟩], []⟩, []⟩, 0) by simp [lKeep, putsC, putC]]
          try simp (maxSteps := 2000000) only [↓RG, RP, true_and, and_true, beq_true, beq_false, Bool.true_beq, Bool.false_beq, BEq.rfl, Int.reduceEq, Int.reduceLT, Int.reduceLE, Nat.reduceEqDiff, decide_true, decide_false, Bool.not_true, Bool.not_false, Bool.and_true, Bool.true_and, Bool.and_false, Bool.false_and, Bool.or_true, Bool.true_or, Bool.or_false, Bool.false_or, Bool.not_not, hb1, hb2, hb4, hb8, hc]
          refine s_view_Read (b := v) (s := ⟨64, [⟨kk, kn⟩], ⟨9, ⟨[⟨kk, b⟩], []⟩, []⟩, kk⟩) ?_
          rw [show vRead ⟨64, [⟨kk, kn⟩], ⟨9, ⟨[⟨kk, b⟩], []⟩, []⟩, kk⟩ (kk : Int) = (⟨64, [⟨kk, kn⟩], ⟨9, ⟨[⟨kk, b⟩], []⟩, []⟩, kk⟩, b, 0) by unfold vRead; rw [if_pos (hv _ _ _)]; simp [lookR, lookC]]
          try simp (maxSteps := 2000000) only [↓RG, RP, true_and, and_true, beq_true, beq_false, Bool.true_beq, Bool.false_beq, BEq.rfl, Int.reduceEq, Int.reduceLT, Int.reduceLE, Nat.reduceEqDiff, decide_true, decide_false, Bool.not_true, Bool.not_false, Bool.and_true, Bool.true_and, Bool.and_false, Bool.false_and, Bool.or_true, Bool.true_or, Bool.or_false, Bool.false_or, Bool.not_not, hb1, hb2, hb4, hb8, hc]
          refine G.joini2 ?_
          try simp (maxSteps := 2000000) only [↓RG, RP, true_and, and_true, beq_true, beq_false, Bool.true_beq, Bool.false_beq, BEq.rfl, Int.reduceEq, Int.reduceLT, Int.reduceLE, Nat.reduceEqDiff, decide_true, decide_false, Bool.not_true, Bool.not_false, Bool.and_true, Bool.true_and, Bool.and_false, Bool.false_and, Bool.or_true, Bool.true_or, Bool.or_false, Bool.false_or, Bool.not_not, hb1, hb2, hb4, hb8, hc]
          refine G.joini2 ?_
          try simp (maxSteps := 2000000) only [↓RG, RP, true_and, and_true, beq_true, beq_false, Bool.true_beq, Bool.false_beq, BEq.rfl, Int.reduceEq, Int.reduceLT, Int.reduceLE, Nat.reduceEqDiff, decide_true, decide_false, Bool.not_true, Bool.not_false, Bool.and_true, Bool.true_and, Bool.and_false, Bool.false_and, Bool.or_true, Bool.true_or, Bool.or_false, Bool.false_or, Bool.not_not, hb1, hb2, hb4, hb8, hc]
          exact hK.sub
      · skip
        by_cases hb8 : IntKind.wrap .u8 (BitVec.ofInt IntKind.u8.bits how &&& BitVec.ofInt IntKind.u8.bits 8).toNat = 8
        · skip
          have hc : ¬ (IntKind.wrap .u8 (BitVec.ofInt IntKind.u8.bits how &&& BitVec.ofInt IntKind.u8.bits 12).toNat = 4) := fun h => hb4 (h12.1 h).1
          try simp (maxSteps := 2000000) only [↓RG, RP, true_and, and_true, beq_true, beq_false, Bool.true_beq, Bool.false_beq, BEq.rfl, Int.reduceEq, Int.reduceLT, Int.reduceLE, Nat.reduceEqDiff, decide_true, decide_false, Bool.not_true, Bool.not_false, Bool.and_true, Bool.true_and, Bool.and_false, Bool.false_and, Bool.or_true, Bool.true_or, Bool.or_false, Bool.false_or, Bool.not_not, hb1, hb2, hb4, hb8, hc]
          refine s_view_Know (b := v) (s := ⟨64, [], ⟨9, ⟨[], []⟩, []⟩, kk⟩) (by simp) ?_
          rw [show vKnow ⟨64, [], ⟨9, ⟨[], []⟩, []⟩, kk⟩ (kk : Int) kn = (⟨64, [⟨kk, kn⟩], ⟨9, ⟨[], []⟩, []⟩, kk⟩, 0) by unfold vKnow; rw [if_pos (hv _ _ _)]; rfl]
          try simp (maxSteps := 2000000) only [↓RG, RP, true_and, and_true, beq_true, beq_false, Bool.true_beq, Bool.false_beq, BEq.rfl, Int.reduceEq, Int.reduceLT, Int.reduceLE, Nat.reduceEqDiff, decide_true, decide_false, Bool.not_true, Bool.not_false, Bool.and_true, Bool.true_and, Bool.and_false, Bool.false_and, Bool.or_true, Bool.true_or, Bool.or_false, Bool.false_or, Bool.not_not, hb1, hb2, hb4, hb8, hc]
          refine s_view_Open (b := v) (s := ⟨64, [⟨kk, kn⟩], ⟨9, ⟨[], []⟩, []⟩, kk⟩) ?_
          rw [show lOpen ⟨9, ⟨[], []⟩, []⟩ = (⟨9, ⟨[], []⟩, [⟨[], []⟩]⟩, 0) from rfl]
          try simp (maxSteps := 2000000) only [↓RG, RP, true_and, and_true, beq_true, beq_false, Bool.true_beq, Bool.false_beq, BEq.rfl, Int.reduceEq, Int.reduceLT, Int.reduceLE, Nat.reduceEqDiff, decide_true, decide_false, Bool.not_true, Bool.not_false, Bool.and_true, Bool.true_and, Bool.and_false, Bool.false_and, Bool.or_true, Bool.true_or, Bool.or_false, Bool.false_or, Bool.not_not, hb1, hb2, hb4, hb8, hc]
          refine G.joini0 ?_
          try simp (maxSteps := 2000000) only [↓RG, RP, true_and, and_true, beq_true, beq_false, Bool.true_beq, Bool.false_beq, BEq.rfl, Int.reduceEq, Int.reduceLT, Int.reduceLE, Nat.reduceEqDiff, decide_true, decide_false, Bool.not_true, Bool.not_false, Bool.and_true, Bool.true_and, Bool.and_false, Bool.false_and, Bool.or_true, Bool.true_or, Bool.or_false, Bool.false_or, Bool.not_not, hb1, hb2, hb4, hb8, hc]
          refine s_view_Drop (b := v) (s := ⟨64, [⟨kk, kn⟩], ⟨9, ⟨[], []⟩, [⟨[], []⟩]⟩, kk⟩) ?_
          rw [show lDrop ⟨9, ⟨[], []⟩, [⟨[], []⟩]⟩ = (⟨9, ⟨[], []⟩, []⟩, 0) from rfl]
          try simp (maxSteps := 2000000) only [↓RG, RP, true_and, and_true, beq_true, beq_false, Bool.true_beq, Bool.false_beq, BEq.rfl, Int.reduceEq, Int.reduceLT, Int.reduceLE, Nat.reduceEqDiff, decide_true, decide_false, Bool.not_true, Bool.not_false, Bool.and_true, Bool.true_and, Bool.and_false, Bool.false_and, Bool.or_true, Bool.true_or, Bool.or_false, Bool.false_or, Bool.not_not, hb1, hb2, hb4, hb8, hc]
          refine s_view_Read (b := v) (s := ⟨64, [⟨kk, kn⟩], ⟨9, ⟨[], []⟩, []⟩, kk⟩) ?_
          rw [show vRead ⟨64, [⟨kk, kn⟩], ⟨9, ⟨[], []⟩, []⟩, kk⟩ (kk : Int) = (⟨64, [⟨kk, kn⟩], ⟨9, ⟨[], []⟩, []⟩, kk⟩, kn, 0) by unfold vRead; rw [if_pos (hv _ _ _)]; simp [lookR, lookC]]
          try simp (maxSteps := 2000000) only [↓RG, RP, true_and, and_true, beq_true, beq_false, Bool.true_beq, Bool.false_beq, BEq.rfl, Int.reduceEq, Int.reduceLT, Int.reduceLE, Nat.reduceEqDiff, decide_true, decide_false, Bool.not_true, Bool.not_false, Bool.and_true, Bool.true_and, Bool.and_false, Bool.false_and, Bool.or_true, Bool.true_or, Bool.or_false, Bool.false_or, Bool.not_not, hb1, hb2, hb4, hb8, hc]
          refine G.joini2 ?_
          try simp (maxSteps := 2000000) only [↓RG, RP, true_and, and_true, beq_true, beq_false, Bool.true_beq, Bool.false_beq, BEq.rfl, Int.reduceEq, Int.reduceLT, Int.reduceLE, Nat.reduceEqDiff, decide_true, decide_false, Bool.not_true, Bool.not_false, Bool.and_true, Bool.true_and, Bool.and_false, Bool.false_and, Bool.or_true, Bool.true_or, Bool.or_false, Bool.false_or, Bool.not_not, hb1, hb2, hb4, hb8, hc]
          refine G.joini2 ?_
          try simp (maxSteps := 2000000) only [↓RG, RP, true_and, and_true, beq_true, beq_false, Bool.true_beq, Bool.false_beq, BEq.rfl, Int.reduceEq, Int.reduceLT, Int.reduceLE, Nat.reduceEqDiff, decide_true, decide_false, Bool.not_true, Bool.not_false, Bool.and_true, Bool.true_and, Bool.and_false, Bool.false_and, Bool.or_true, Bool.true_or, Bool.or_false, Bool.false_or, Bool.not_not, hb1, hb2, hb4, hb8, hc]
          exact hK.sub
        · skip
          have hc : ¬ (IntKind.wrap .u8 (BitVec.ofInt IntKind.u8.bits how &&& BitVec.ofInt IntKind.u8.bits 12).toNat = 4) := fun h => hb4 (h12.1 h).1
          try simp (maxSteps := 2000000) only [↓RG, RP, true_and, and_true, beq_true, beq_false, Bool.true_beq, Bool.false_beq, BEq.rfl, Int.reduceEq, Int.reduceLT, Int.reduceLE, Nat.reduceEqDiff, decide_true, decide_false, Bool.not_true, Bool.not_false, Bool.and_true, Bool.true_and, Bool.and_false, Bool.false_and, Bool.or_true, Bool.true_or, Bool.or_false, Bool.false_or, Bool.not_not, hb1, hb2, hb4, hb8, hc]
          refine s_view_Know (b := v) (s := ⟨64, [], ⟨9, ⟨[], []⟩, []⟩, kk⟩) (by simp) ?_
          rw [show vKnow ⟨64, [], ⟨9, ⟨[], []⟩, []⟩, kk⟩ (kk : Int) kn = (⟨64, [⟨kk, kn⟩], ⟨9, ⟨[], []⟩, []⟩, kk⟩, 0) by unfold vKnow; rw [if_pos (hv _ _ _)]; rfl]
          try simp (maxSteps := 2000000) only [↓RG, RP, true_and, and_true, beq_true, beq_false, Bool.true_beq, Bool.false_beq, BEq.rfl, Int.reduceEq, Int.reduceLT, Int.reduceLE, Nat.reduceEqDiff, decide_true, decide_false, Bool.not_true, Bool.not_false, Bool.and_true, Bool.true_and, Bool.and_false, Bool.false_and, Bool.or_true, Bool.true_or, Bool.or_false, Bool.false_or, Bool.not_not, hb1, hb2, hb4, hb8, hc]
          refine s_view_Open (b := v) (s := ⟨64, [⟨kk, kn⟩], ⟨9, ⟨[], []⟩, []⟩, kk⟩) ?_
          rw [show lOpen ⟨9, ⟨[], []⟩, []⟩ = (⟨9, ⟨[], []⟩, [⟨[], []⟩]⟩, 0) from rfl]
          try simp (maxSteps := 2000000) only [↓RG, RP, true_and, and_true, beq_true, beq_false, Bool.true_beq, Bool.false_beq, BEq.rfl, Int.reduceEq, Int.reduceLT, Int.reduceLE, Nat.reduceEqDiff, decide_true, decide_false, Bool.not_true, Bool.not_false, Bool.and_true, Bool.true_and, Bool.and_false, Bool.false_and, Bool.or_true, Bool.true_or, Bool.or_false, Bool.false_or, Bool.not_not, hb1, hb2, hb4, hb8, hc]
          refine G.joini0 ?_
          try simp (maxSteps := 2000000) only [↓RG, RP, true_and, and_true, beq_true, beq_false, Bool.true_beq, Bool.false_beq, BEq.rfl, Int.reduceEq, Int.reduceLT, Int.reduceLE, Nat.reduceEqDiff, decide_true, decide_false, Bool.not_true, Bool.not_false, Bool.and_true, Bool.true_and, Bool.and_false, Bool.false_and, Bool.or_true, Bool.true_or, Bool.or_false, Bool.false_or, Bool.not_not, hb1, hb2, hb4, hb8, hc]
          refine s_view_Keep (b := v) (s := ⟨64, [⟨kk, kn⟩], ⟨9, ⟨[], []⟩, [⟨[], []⟩]⟩, kk⟩) (by simp [LvS.frees, freesR]) ?_
          rw [show lKeep ⟨9, ⟨[], []⟩, [⟨[], []⟩]⟩ = (⟨9, ⟨[], []⟩, []⟩, 0) by simp [lKeep, putsC, putC]]
          try simp (maxSteps := 2000000) only [↓RG, RP, true_and, and_true, beq_true, beq_false, Bool.true_beq, Bool.false_beq, BEq.rfl, Int.reduceEq, Int.reduceLT, Int.reduceLE, Nat.reduceEqDiff, decide_true, decide_false, Bool.not_true, Bool.not_false, Bool.and_true, Bool.true_and, Bool.and_false, Bool.false_and, Bool.or_true, Bool.true_or, Bool.or_false, Bool.false_or, Bool.not_not, hb1, hb2, hb4, hb8, hc]
          refine s_view_Read (b := v) (s := ⟨64, [⟨kk, kn⟩], ⟨9, ⟨[], []⟩, []⟩, kk⟩) ?_
          rw [show vRead ⟨64, [⟨kk, kn⟩], ⟨9, ⟨[], []⟩, []⟩, kk⟩ (kk : Int) = (⟨64, [⟨kk, kn⟩], ⟨9, ⟨[], []⟩, []⟩, kk⟩, kn, 0) by unfold vRead; rw [if_pos (hv _ _ _)]; simp [lookR, lookC]]
          try simp (maxSteps := 2000000) only [↓RG, RP, true_and, and_true, beq_true, beq_false, Bool.true_beq, Bool.false_beq, BEq.rfl, Int.reduceEq, Int.reduceLT, Int.reduceLE, Nat.reduceEqDiff, decide_true, decide_false, Bool.not_true, Bool.not_false, Bool.and_true, Bool.true_and, Bool.and_false, Bool.false_and, Bool.or_true, Bool.true_or, Bool.or_false, Bool.false_or, Bool.not_not, hb1, hb2, hb4, hb8, hc]
          refine G.joini2 ?_
          try simp (maxSteps := 2000000) only [↓RG, RP, true_and, and_true, beq_true, beq_false, Bool.true_beq, Bool.false_beq, BEq.rfl, Int.reduceEq, Int.reduceLT, Int.reduceLE, Nat.reduceEqDiff, decide_true, decide_false, Bool.not_true, Bool.not_false, Bool.and_true, Bool.true_and, Bool.and_false, Bool.false_and, Bool.or_true, Bool.true_or, Bool.or_false, Bool.false_or, Bool.not_not, hb1, hb2, hb4, hb8, hc]
          refine G.joini2 ?_
          try simp (maxSteps := 2000000) only [↓RG, RP, true_and, and_true, beq_true, beq_false, Bool.true_beq, Bool.false_beq, BEq.rfl, Int.reduceEq, Int.reduceLT, Int.reduceLE, Nat.reduceEqDiff, decide_true, decide_false, Bool.not_true, Bool.not_false, Bool.and_true, Bool.true_and, Bool.and_false, Bool.false_and, Bool.or_true, Bool.true_or, Bool.or_false, Bool.false_or, Bool.not_not, hb1, hb2, hb4, hb8, hc]
          exact hK.sub
  · skip
    by_cases hb2 : IntKind.wrap .u8 (BitVec.ofInt IntKind.u8.bits how &&& BitVec.ofInt IntKind.u8.bits 2).toNat = 2
    · skip
      by_cases hb4 : IntKind.wrap .u8 (BitVec.ofInt IntKind.u8.bits how &&& BitVec.ofInt IntKind.u8.bits 4).toNat = 4
      · skip
        by_cases hb8 : IntKind.wrap .u8 (BitVec.ofInt IntKind.u8.bits how &&& BitVec.ofInt IntKind.u8.bits 8).toNat = 8
        · skip
          have hc : ¬ (IntKind.wrap .u8 (BitVec.ofInt IntKind.u8.bits how &&& BitVec.ofInt IntKind.u8.bits 12).toNat = 4) := fun h => (h12.1 h).2 hb8
          try simp (maxSteps := 2000000) only [↓RG, RP, true_and, and_true, beq_true, beq_false, Bool.true_beq, Bool.false_beq, BEq.rfl, Int.reduceEq, Int.reduceLT, Int.reduceLE, Nat.reduceEqDiff, decide_true, decide_false, Bool.not_true, Bool.not_false, Bool.and_true, Bool.true_and, Bool.and_false, Bool.false_and, Bool.or_true, Bool.true_or, Bool.or_false, Bool.false_or, Bool.not_not, hb1, hb2, hb4, hb8, hc]
          refine s_view_Write (b := v) (s := ⟨64, [], ⟨9, ⟨[], []⟩, []⟩, kk⟩) ?_
          rw [write_ok hk rfl (by simp [LvS.room, totalC])]
          try simp (maxSteps := 2000000) only [↓RG, RP, true_and, and_true, beq_true, beq_false, Bool.true_beq, Bool.false_beq, BEq.rfl, Int.reduceEq, Int.reduceLT, Int.reduceLE, Nat.reduceEqDiff, decide_true, decide_false, Bool.not_true, Bool.not_false, Bool.and_true, Bool.true_and, Bool.and_false, Bool.false_and, Bool.or_true, Bool.true_or, Bool.or_false, Bool.false_or, Bool.not_not, hb1, hb2, hb4, hb8, hc]
          refine s_view_Open (b := v) (s := ⟨64, [], ⟨9, ⟨[⟨kk, a⟩], []⟩, []⟩, kk⟩) ?_
          rw [show lOpen ⟨9, ⟨[⟨kk, a⟩], []⟩, []⟩ = (⟨9, ⟨[], []⟩, [⟨[⟨kk, a⟩], []⟩]⟩, 0) from rfl]
          try simp (maxSteps := 2000000) only [↓RG, RP, true_and, and_true, beq_true, beq_false, Bool.true_beq, Bool.false_beq, BEq.rfl, Int.reduceEq, Int.reduceLT, Int.reduceLE, Nat.reduceEqDiff, decide_true, decide_false, Bool.not_true, Bool.not_false, Bool.and_true, Bool.true_and, Bool.and_false, Bool.false_and, Bool.or_true, Bool.true_or, Bool.or_false, Bool.false_or, Bool.not_not, hb1, hb2, hb4, hb8, hc]
          refine s_view_Write (b := v) (s := ⟨64, [], ⟨9, ⟨[], []⟩, [⟨[⟨kk, a⟩], []⟩]⟩, kk⟩) ?_
          rw [write_ok hk rfl (by simp [LvS.room, totalC])]
          try simp (maxSteps := 2000000) only [↓RG, RP, true_and, and_true, beq_true, beq_false, Bool.true_beq, Bool.false_beq, BEq.rfl, Int.reduceEq, Int.reduceLT, Int.reduceLE, Nat.reduceEqDiff, decide_true, decide_false, Bool.not_true, Bool.not_false, Bool.and_true, Bool.true_and, Bool.and_false, Bool.false_and, Bool.or_true, Bool.true_or, Bool.or_false, Bool.false_or, Bool.not_not, hb1, hb2, hb4, hb8, hc]
          refine G.joini0 ?_
          try simp (maxSteps := 2000000) only [↓RG, RP, true_and, and_true, beq_true, beq_false, Bool.true_beq, Bool.false_beq, BEq.rfl, Int.reduceEq, Int.reduceLT, Int.reduceLE, Nat.reduceEqDiff, decide_true, decide_false, Bool.not_true, Bool.not_false, Bool.and_true, Bool.true_and, Bool.and_false, Bool.false_and, Bool.or_true, Bool.true_or, Bool.or_false, Bool.false_or, Bool.not_not, hb1, hb2, hb4, hb8, hc]
          refine s_view_Drop (b := v) (s := ⟨64, [], ⟨9, ⟨[⟨kk, b⟩], []⟩, [⟨[⟨kk, a⟩], []⟩]⟩, kk⟩) ?_
          rw [show lDrop ⟨9, ⟨[⟨kk, b⟩], []⟩, [⟨[⟨kk, a⟩], []⟩]⟩ = (⟨9, ⟨[⟨kk, a⟩], []⟩, []⟩, 0) from rfl]
          try simp (maxSteps := 2000000) only [↓RG, RP, true_and, and_true, beq_true, beq_false, Bool.true_beq, Bool.false_beq, BEq.rfl, Int.reduceEq, Int.reduceLT, Int.reduceLE, Nat.reduceEqDiff, decide_true, decide_false, Bool.not_true, Bool.not_false, Bool.and_true, Bool.true_and, Bool.and_false, Bool.false_and, Bool.or_true, Bool.true_or, Bool.or_false, Bool.false_or, Bool.not_not, hb1, hb2, hb4, hb8, hc]
          refine s_view_Read (b := v) (s := ⟨64, [], ⟨9, ⟨[⟨kk, a⟩], []⟩, []⟩, kk⟩) ?_
          rw [show vRead ⟨64, [], ⟨9, ⟨[⟨kk, a⟩], []⟩, []⟩, kk⟩ (kk : Int) = (⟨64, [], ⟨9, ⟨[⟨kk, a⟩], []⟩, []⟩, kk⟩, a, 0) by unfold vRead; rw [if_pos (hv _ _ _)]; simp [lookR, lookC]]
          try simp (maxSteps := 2000000) only [↓RG, RP, true_and, and_true, beq_true, beq_false, Bool.true_beq, Bool.false_beq, BEq.rfl, Int.reduceEq, Int.reduceLT, Int.reduceLE, Nat.reduceEqDiff, decide_true, decide_false, Bool.not_true, Bool.not_false, Bool.and_true, Bool.true_and, Bool.and_false, Bool.false_and, Bool.or_true, Bool.true_or, Bool.or_false, Bool.false_or, Bool.not_not, hb1, hb2, hb4, hb8, hc]
          refine G.joini2 ?_
          try simp (maxSteps := 2000000) only [↓RG, RP, true_and, and_true, beq_true, beq_false, Bool.true_beq, Bool.false_beq, BEq.rfl, Int.reduceEq, Int.reduceLT, Int.reduceLE, Nat.reduceEqDiff, decide_true, decide_false, Bool.not_true, Bool.not_false, Bool.and_true, Bool.true_and, Bool.and_false, Bool.false_and, Bool.or_true, Bool.true_or, Bool.or_false, Bool.false_or, Bool.not_not, hb1, hb2, hb4, hb8, hc]
          refine G.joini2 ?_
          try simp (maxSteps := 2000000) only [↓RG, RP, true_and, and_true, beq_true, beq_false, Bool.true_beq, Bool.false_beq, BEq.rfl, Int.reduceEq, Int.reduceLT, Int.reduceLE, Nat.reduceEqDiff, decide_true, decide_false, Bool.not_true, Bool.not_false, Bool.and_true, Bool.true_and, Bool.and_false, Bool.false_and, Bool.or_true, Bool.true_or, Bool.or_false, Bool.false_or, Bool.not_not, hb1, hb2, hb4, hb8, hc]
          exact hK.sub
        · skip
          have hc : IntKind.wrap .u8 (BitVec.ofInt IntKind.u8.bits how &&& BitVec.ofInt IntKind.u8.bits 12).toNat = 4 := h12.2 ⟨hb4, hb8⟩
          try simp (maxSteps := 2000000) only [↓RG, RP, true_and, and_true, beq_true, beq_false, Bool.true_beq, Bool.false_beq, BEq.rfl, Int.reduceEq, Int.reduceLT, Int.reduceLE, Nat.reduceEqDiff, decide_true, decide_false, Bool.not_true, Bool.not_false, Bool.and_true, Bool.true_and, Bool.and_false, Bool.false_and, Bool.or_true, Bool.true_or, Bool.or_false, Bool.false_or, Bool.not_not, hb1, hb2, hb4, hb8, hc]
          refine s_view_Write (b := v) (s := ⟨64, [], ⟨9, ⟨[], []⟩, []⟩, kk⟩) ?_
          rw [write_ok hk rfl (by simp [LvS.room, totalC])]
          try simp (maxSteps := 2000000) only [↓RG, RP, true_and, and_true, beq_true, beq_false, Bool.true_beq, Bool.false_beq, BEq.rfl, Int.reduceEq, Int.reduceLT, Int.reduceLE, Nat.reduceEqDiff, decide_true, decide_false, Bool.not_true, Bool.not_false, Bool.and_true, Bool.true_and, Bool.and_false, Bool.false_and, Bool.or_true, Bool.true_or, Bool.or_false, Bool.false_or, Bool.not_not, hb1, hb2, hb4, hb8, hc]
          refine s_view_Open (b := v) (s := ⟨64, [], ⟨9, ⟨[⟨kk, a⟩], []⟩, []⟩, kk⟩) ?_
          rw [show lOpen ⟨9, ⟨[⟨kk, a⟩], []⟩, []⟩ = (⟨9, ⟨[], []⟩, [⟨[⟨kk, a⟩], []⟩]⟩, 0) from rfl]
          try simp (maxSteps := 2000000) only [↓RG, RP, true_and, and_true, beq_true, beq_false, Bool.true_beq, Bool.false_beq, BEq.rfl, Int.reduceEq, Int.reduceLT, Int.reduceLE, Nat.reduceEqDiff, decide_true, decide_false, Bool.not_true, Bool.not_false, Bool.and_true, Bool.true_and, Bool.and_false, Bool.false_and, Bool.or_true, Bool.true_or, Bool.or_false, Bool.false_or, Bool.not_not, hb1, hb2, hb4, hb8, hc]
          refine s_view_Write (b := v) (s := ⟨64, [], ⟨9, ⟨[], []⟩, [⟨[⟨kk, a⟩], []⟩]⟩, kk⟩) ?_
          rw [write_ok hk rfl (by simp [LvS.room, totalC])]
          try simp (maxSteps := 2000000) only [↓RG, RP, true_and, and_true, beq_true, beq_false, Bool.true_beq, Bool.false_beq, BEq.rfl, Int.reduceEq, Int.reduceLT, Int.reduceLE, Nat.reduceEqDiff, decide_true, decide_false, Bool.not_true, Bool.not_false, Bool.and_true, Bool.true_and, Bool.and_false, Bool.false_and, Bool.or_true, Bool.true_or, Bool.or_false, Bool.false_or, Bool.not_not, hb1, hb2, hb4, hb8, hc]
          refine G.joini0 ?_
          try simp (maxSteps := 2000000) only [↓RG, RP, true_and, and_true, beq_true, beq_false, Bool.true_beq, Bool.false_beq, BEq.rfl, Int.reduceEq, Int.reduceLT, Int.reduceLE, Nat.reduceEqDiff, decide_true, decide_false, Bool.not_true, Bool.not_false, Bool.and_true, Bool.true_and, Bool.and_false, Bool.false_and, Bool.or_true, Bool.true_or, Bool.or_false, Bool.false_or, Bool.not_not, hb1, hb2, hb4, hb8, hc]
          refine s_view_Keep (b := v) (s := ⟨64, [], ⟨9, ⟨[⟨kk, b⟩], []⟩, [⟨[⟨kk, a⟩], []⟩]⟩, kk⟩) (by simp [LvS.frees, freesR]) ?_
          rw [show lKeep ⟨9, ⟨[⟨kk, b⟩], []⟩, [⟨[⟨kk, a⟩], []⟩]⟩ = (⟨9, ⟨[⟨kk, b⟩], []⟩, []⟩, 0) by simp [lKeep, putsC, putC]]
          try simp (maxSteps := 2000000) only [↓RG, RP, true_and, and_true, beq_true, beq_false, Bool.true_beq, Bool.false_beq, BEq.rfl, Int.reduceEq, Int.reduceLT, Int.reduceLE, Nat.reduceEqDiff, decide_true, decide_false, Bool.not_true, Bool.not_false, Bool.and_true, Bool.true_and, Bool.and_false, Bool.false_and, Bool.or_true, Bool.true_or, Bool.or_false, Bool.false_or, Bool.not_not, hb1, hb2, hb4, hb8, hc]
          refine s_view_Read (b := v) (s := ⟨64, [], ⟨9, ⟨[⟨kk, b⟩], []⟩, []⟩, kk⟩) ?_
          rw [show vRead ⟨64, [], ⟨9, ⟨[⟨kk, b⟩], []⟩, []⟩, kk⟩ (kk : Int) = (⟨64, [], ⟨9, ⟨[⟨kk, b⟩], []⟩, []⟩, kk⟩, b, 0) by unfold vRead; rw [if_pos (hv _ _ _)]; simp [lookR, lookC]]
          try simp (maxSteps := 2000000) only [↓RG, RP, true_and, and_true, beq_true, beq_false, Bool.true_beq, Bool.false_beq, BEq.rfl, Int.reduceEq, Int.reduceLT, Int.reduceLE, Nat.reduceEqDiff, decide_true, decide_false, Bool.not_true, Bool.not_false, Bool.and_true, Bool.true_and, Bool.and_false, Bool.false_and, Bool.or_true, Bool.true_or, Bool.or_false, Bool.false_or, Bool.not_not, hb1, hb2, hb4, hb8, hc]
          refine G.joini2 ?_
          try simp (maxSteps := 2000000) only [↓RG, RP, true_and, and_true, beq_true, beq_false, Bool.true_beq, Bool.false_beq, BEq.rfl, Int.reduceEq, Int.reduceLT, Int.reduceLE, Nat.reduceEqDiff, decide_true, decide_false, Bool.not_true, Bool.not_false, Bool.and_true, Bool.true_and, Bool.and_false, Bool.false_and, Bool.or_true, Bool.true_or, Bool.or_false, Bool.false_or, Bool.not_not, hb1, hb2, hb4, hb8, hc]
          refine G.joini2 ?_
          try simp (maxSteps := 2000000) only [↓RG, RP, true_and, and_true, beq_true, beq_false, Bool.true_beq, Bool.false_beq, BEq.rfl, Int.reduceEq, Int.reduceLT, Int.reduceLE, Nat.reduceEqDiff, decide_true, decide_false, Bool.not_true, Bool.not_false, Bool.and_true, Bool.true_and, Bool.and_false, Bool.false_and, Bool.or_true, Bool.true_or, Bool.or_false, Bool.false_or, Bool.not_not, hb1, hb2, hb4, hb8, hc]
          exact hK.sub
      · skip
        by_cases hb8 : IntKind.wrap .u8 (BitVec.ofInt IntKind.u8.bits how &&& BitVec.ofInt IntKind.u8.bits 8).toNat = 8
        · skip
          have hc : ¬ (IntKind.wrap .u8 (BitVec.ofInt IntKind.u8.bits how &&& BitVec.ofInt IntKind.u8.bits 12).toNat = 4) := fun h => hb4 (h12.1 h).1
          try simp (maxSteps := 2000000) only [↓RG, RP, true_and, and_true, beq_true, beq_false, Bool.true_beq, Bool.false_beq, BEq.rfl, Int.reduceEq, Int.reduceLT, Int.reduceLE, Nat.reduceEqDiff, decide_true, decide_false, Bool.not_true, Bool.not_false, Bool.and_true, Bool.true_and, Bool.and_false, Bool.false_and, Bool.or_true, Bool.true_or, Bool.or_false, Bool.false_or, Bool.not_not, hb1, hb2, hb4, hb8, hc]
          refine s_view_Write (b := v) (s := ⟨64, [], ⟨9, ⟨[], []⟩, []⟩, kk⟩) ?_
          rw [write_ok hk rfl (by simp [LvS.room, totalC])]
          try simp (maxSteps := 2000000) only [↓RG, RP, true_and, and_true, beq_true, beq_false, Bool.true_beq, Bool.false_beq, BEq.rfl, Int.reduceEq, Int.reduceLT, Int.reduceLE, Nat.reduceEqDiff, decide_true, decide_false, Bool.not_true, Bool.not_false, Bool.and_true, Bool.true_and, Bool.and_false, Bool.false_and, Bool.or_true, Bool.true_or, Bool.or_false, Bool.false_or, Bool.not_not, hb1, hb2, hb4, hb8, hc]
          refine s_view_Open (b := v) (s := ⟨64, [], ⟨9, ⟨[⟨kk, a⟩], []⟩, []⟩, kk⟩) ?_
          rw [show lOpen ⟨9, ⟨[⟨kk, a⟩], []⟩, []⟩ = (⟨9, ⟨[], []⟩, [⟨[⟨kk, a⟩], []⟩]⟩, 0) from rfl]
          try simp (maxSteps := 2000000) only [↓RG, RP, true_and, and_true, beq_true, beq_false, Bool.true_beq, Bool.false_beq, BEq.rfl, Int.reduceEq, Int.reduceLT, Int.reduceLE, Nat.reduceEqDiff, decide_true, decide_false, Bool.not_true, Bool.not_false, Bool.and_true, Bool.true_and, Bool.and_false, Bool.false_and, Bool.or_true, Bool.true_or, Bool.or_false, Bool.false_or, Bool.not_not, hb1, hb2, hb4, hb8, hc]
          refine G.joini0 ?_
          try simp (maxSteps := 2000000) only [↓RG, RP, true_and, and_true, beq_true, beq_false, Bool.true_beq, Bool.false_beq, BEq.rfl, Int.reduceEq, Int.reduceLT, Int.reduceLE, Nat.reduceEqDiff, decide_true, decide_false, Bool.not_true, Bool.not_false, Bool.and_true, Bool.true_and, Bool.and_false, Bool.false_and, Bool.or_true, Bool.true_or, Bool.or_false, Bool.false_or, Bool.not_not, hb1, hb2, hb4, hb8, hc]
          refine s_view_Drop (b := v) (s := ⟨64, [], ⟨9, ⟨[], []⟩, [⟨[⟨kk, a⟩], []⟩]⟩, kk⟩) ?_
          rw [show lDrop ⟨9, ⟨[], []⟩, [⟨[⟨kk, a⟩], []⟩]⟩ = (⟨9, ⟨[⟨kk, a⟩], []⟩, []⟩, 0) from rfl]
          try simp (maxSteps := 2000000) only [↓RG, RP, true_and, and_true, beq_true, beq_false, Bool.true_beq, Bool.false_beq, BEq.rfl, Int.reduceEq, Int.reduceLT, Int.reduceLE, Nat.reduceEqDiff, decide_true, decide_false, Bool.not_true, Bool.not_false, Bool.and_true, Bool.true_and, Bool.and_false, Bool.false_and, Bool.or_true, Bool.true_or, Bool.or_false, Bool.false_or, Bool.not_not, hb1, hb2, hb4, hb8, hc]
          refine s_view_Read (b := v) (s := ⟨64, [], ⟨9, ⟨[⟨kk, a⟩], []⟩, []⟩, kk⟩) ?_
          rw [show vRead ⟨64, [], ⟨9, ⟨[⟨kk, a⟩], []⟩, []⟩, kk⟩ (kk : Int) = (⟨64, [], ⟨9, ⟨[⟨kk, a⟩], []⟩, []⟩, kk⟩, a, 0) by unfold vRead; rw [if_pos (hv _ _ _)]; simp [lookR, lookC]]
          try simp (maxSteps := 2000000) only [↓RG, RP, true_and, and_true, beq_true, beq_false, Bool.true_beq, Bool.false_beq, BEq.rfl, Int.reduceEq, Int.reduceLT, Int.reduceLE, Nat.reduceEqDiff, decide_true, decide_false, Bool.not_true, Bool.not_false, Bool.and_true, Bool.true_and, Bool.and_false, Bool.false_and, Bool.or_true, Bool.true_or, Bool.or_false, Bool.false_or, Bool.not_not, hb1, hb2, hb4, hb8, hc]
          refine G.joini2 ?_
          try simp (maxSteps := 2000000) only [↓RG, RP, true_and, and_true, beq_true, beq_false, Bool.true_beq, Bool.false_beq, BEq.rfl, Int.reduceEq, Int.reduceLT, Int.reduceLE, Nat.reduceEqDiff, decide_true, decide_false, Bool.not_true, Bool.not_false, Bool.and_true, Bool.true_and, Bool.and_false, Bool.false_and, Bool.or_true, Bool.true_or, Bool.or_false, Bool.false_or, Bool.not_not, hb1, hb2, hb4, hb8, hc]
          refine G.joini2 ?_
          try simp (maxSteps := 2000000) only [↓RG, RP, true_and, and_true, beq_true, beq_false, Bool.true_beq, Bool.false_beq, BEq.rfl, Int.reduceEq, Int.reduceLT, Int.reduceLE, Nat.reduceEqDiff, decide_true, decide_false, Bool.not_true, Bool.not_false, Bool.and_true, Bool.true_and, Bool.and_false, Bool.false_and, Bool.or_true, Bool.true_or, Bool.or_false, Bool.false_or, Bool.not_not, hb1, hb2, hb4, hb8, hc]
          exact hK.sub
        · skip
          have hc : ¬ (IntKind.wrap .u8 (BitVec.ofInt IntKind.u8.bits how &&& BitVec.ofInt IntKind.u8.bits 12).toNat = 4) := fun h => hb4 (h12.1 h).1
          try simp (maxSteps := 2000000) only [↓RG, RP, true_and, and_true, beq_true, beq_false, Bool.true_beq, Bool.false_beq, BEq.rfl, Int.reduceEq, Int.reduceLT, Int.reduceLE, Nat.reduceEqDiff, decide_true, decide_false, Bool.not_true, Bool.not_false, Bool.and_true, Bool.true_and, Bool.and_false, Bool.false_and, Bool.or_true, Bool.true_or, Bool.or_false, Bool.false_or, Bool.not_not, hb1, hb2, hb4, hb8, hc]
          refine s_view_Write (b := v) (s := ⟨64, [], ⟨9, ⟨[], []⟩, []⟩, kk⟩) ?_
          rw [write_ok hk rfl (by simp [LvS.room, totalC])]
          try simp (maxSteps := 2000000) only [↓RG, RP, true_and, and_true, beq_true, beq_false, Bool.true_beq, Bool.false_beq, BEq.rfl, Int.reduceEq, Int.reduceLT, Int.reduceLE, Nat.reduceEqDiff, decide_true, decide_false, Bool.not_true, Bool.not_false, Bool.and_true, Bool.true_and, Bool.and_false, Bool.false_and, Bool.or_true, Bool.true_or, Bool.or_false, Bool.false_or, Bool.not_not, hb1, hb2, hb4, hb8, hc]
          refine s_view_Open (b := v) (s := ⟨64, [], ⟨9, ⟨[⟨kk, a⟩], []⟩, []⟩, kk⟩) ?_
          rw [show lOpen ⟨9, ⟨[⟨kk, a⟩], []⟩, []⟩ = (⟨9, ⟨[], []⟩, [⟨[⟨kk, a⟩], []⟩]⟩, 0) from rfl]
          try simp (maxSteps := 2000000) only [↓RG, RP, true_and, and_true, beq_true, beq_false, Bool.true_beq, Bool.false_beq, BEq.rfl, Int.reduceEq, Int.reduceLT, Int.reduceLE, Nat.reduceEqDiff, decide_true, decide_false, Bool.not_true, Bool.not_false, Bool.and_true, Bool.true_and, Bool.and_false, Bool.false_and, Bool.or_true, Bool.true_or, Bool.or_false, Bool.false_or, Bool.not_not, hb1, hb2, hb4, hb8, hc]
          refine G.joini0 ?_
          try simp (maxSteps := 2000000) only [↓RG, RP, true_and, and_true, beq_true, beq_false, Bool.true_beq, Bool.false_beq, BEq.rfl, Int.reduceEq, Int.reduceLT, Int.reduceLE, Nat.reduceEqDiff, decide_true, decide_false, Bool.not_true, Bool.not_false, Bool.and_true, Bool.true_and, Bool.and_false, Bool.false_and, Bool.or_true, Bool.true_or, Bool.or_false, Bool.false_or, Bool.not_not, hb1, hb2, hb4, hb8, hc]
          refine s_view_Keep (b := v) (s := ⟨64, [], ⟨9, ⟨[], []⟩, [⟨[⟨kk, a⟩], []⟩]⟩, kk⟩) (by simp [LvS.frees, freesR]) ?_
          rw [show lKeep ⟨9, ⟨[], []⟩, [⟨[⟨kk, a⟩], []⟩]⟩ = (⟨9, ⟨[⟨kk, a⟩], []⟩, []⟩, 0) by simp [lKeep, putsC, putC]]
          try simp (maxSteps := 2000000) only [↓RG, RP, true_and, and_true, beq_true, beq_false, Bool.true_beq, Bool.false_beq, BEq.rfl, Int.reduceEq, Int.reduceLT, Int.reduceLE, Nat.reduceEqDiff, decide_true, decide_false, Bool.not_true, Bool.not_false, Bool.and_true, Bool.true_and, Bool.and_false, Bool.false_and, Bool.or_true, Bool.true_or, Bool.or_false, Bool.false_or, Bool.not_not, hb1, hb2, hb4, hb8, hc]
          refine s_view_Read (b := v) (s := ⟨64, [], ⟨9, ⟨[⟨kk, a⟩], []⟩, []⟩, kk⟩) ?_
          rw [show vRead ⟨64, [], ⟨9, ⟨[⟨kk, a⟩], []⟩, []⟩, kk⟩ (kk : Int) = (⟨64, [], ⟨9, ⟨[⟨kk, a⟩], []⟩, []⟩, kk⟩, a, 0) by unfold vRead; rw [if_pos (hv _ _ _)]; simp [lookR, lookC]]
          try simp (maxSteps := 2000000) only [↓RG, RP, true_and, and_true, beq_true, beq_false, Bool.true_beq, Bool.false_beq, BEq.rfl, Int.reduceEq, Int.reduceLT, Int.reduceLE, Nat.reduceEqDiff, decide_true, decide_false, Bool.not_true, Bool.not_false, Bool.and_true, Bool.true_and, Bool.and_false, Bool.false_and, Bool.or_true, Bool.true_or, Bool.or_false, Bool.false_or, Bool.not_not, hb1, hb2, hb4, hb8, hc]
          refine G.joini2 ?_
          try simp (maxSteps := 2000000) only [↓RG, RP, true_and, and_true, beq_true, beq_false, Bool.true_beq, Bool.false_beq, BEq.rfl, Int.reduceEq, Int.reduceLT, Int.reduceLE, Nat.reduceEqDiff, decide_true, decide_false, Bool.not_true, Bool.not_false, Bool.and_true, Bool.true_and, Bool.and_false, Bool.false_and, Bool.or_true, Bool.true_or, Bool.or_false, Bool.false_or, Bool.not_not, hb1, hb2, hb4, hb8, hc]
          refine G.joini2 ?_
          try simp (maxSteps := 2000000) only [↓RG, RP, true_and, and_true, beq_true, beq_false, Bool.true_beq, Bool.false_beq, BEq.rfl, Int.reduceEq, Int.reduceLT, Int.reduceLE, Nat.reduceEqDiff, decide_true, decide_false, Bool.not_true, Bool.not_false, Bool.and_true, Bool.true_and, Bool.and_false, Bool.false_and, Bool.or_true, Bool.true_or, Bool.or_false, Bool.false_or, Bool.not_not, hb1, hb2, hb4, hb8, hc]
          exact hK.sub
    · skip
      by_cases hb4 : IntKind.wrap .u8 (BitVec.ofInt IntKind.u8.bits how &&& BitVec.ofInt IntKind.u8.bits 4).toNat = 4
      · skip
        by_cases hb8 : IntKind.wrap .u8 (BitVec.ofInt IntKind.u8.bits how &&& BitVec.ofInt IntKind.u8.bits 8).toNat = 8
        · skip
          have hc : ¬ (IntKind.wrap .u8 (BitVec.ofInt IntKind.u8.bits how &&& BitVec.ofInt IntKind.u8.bits 12).toNat = 4) := fun h => (h12.1 h).2 hb8
          try simp (maxSteps := 2000000) only [↓RG, RP, true_and, and_true, beq_true, beq_false, Bool.true_beq, Bool.false_beq, BEq.rfl, Int.reduceEq, Int.reduceLT, Int.reduceLE, Nat.reduceEqDiff, decide_true, decide_false, Bool.not_true, Bool.not_false, Bool.and_true, Bool.true_and, Bool.and_false, Bool.false_and, Bool.or_true, Bool.true_or, Bool.or_false, Bool.false_or, Bool.not_not, hb1, hb2, hb4, hb8, hc]
          refine s_view_Open (b := v) (s := ⟨64, [], ⟨9, ⟨[], []⟩, []⟩, kk⟩) ?_
          rw [show lOpen ⟨9, ⟨[], []⟩, []⟩ = (⟨9, ⟨[], []⟩, [⟨[], []⟩]⟩, 0) from rfl]
          try simp (maxSteps := 2000000) only [↓RG, RP, true_and, and_true, beq_true, beq_false, Bool.true_beq, Bool.false_beq, BEq.rfl, Int.reduceEq, Int.reduceLT, Int.reduceLE, Nat.reduceEqDiff, decide_true, decide_false, Bool.not_true, Bool.not_false, Bool.and_true, Bool.true_and, Bool.and_false, Bool.false_and, Bool.or_true, Bool.true_or, Bool.or_false, Bool.false_or, Bool.not_not, hb1, hb2, hb4, hb8, hc]
          refine s_view_Write (b := v) (s := ⟨64, [], ⟨9, ⟨[], []⟩, [⟨[], []⟩]⟩, kk⟩) ?_
          rw [write_ok hk rfl (by simp [LvS.room, totalC])]
          try simp (maxSteps := 2000000) only [↓RG, RP, true_and, and_true, beq_true, beq_false, Bool.true_beq, Bool.false_beq, BEq.rfl, Int.reduceEq, Int.reduceLT, Int.reduceLE, Nat.reduceEqDiff, decide_true, decide_false, Bool.not_true, Bool.not_false, Bool.and_true, Bool.true_and, Bool.and_false, Bool.false_and, Bool.or_true, Bool.true_or, Bool.or_false, Bool.false_or, Bool.not_not, hb1, hb2, hb4, hb8, hc]
          refine G.joini0 ?_
          try simp (maxSteps := 2000000) only [↓RG, RP, true_and, and_true, beq_true, beq_false, Bool.true_beq, Bool.false_beq, BEq.rfl, Int.reduceEq, Int.reduceLT, Int.reduceLE, Nat.reduceEqDiff, decide_true, decide_false, Bool.not_true, Bool.not_false, Bool.and_true, Bool.true_and, Bool.and_false, Bool.false_and, Bool.or_true, Bool.true_or, Bool.or_false, Bool.false_or, Bool.not_not, hb1, hb2, hb4, hb8, hc]
          refine s_view_Drop (b := v) (s := ⟨64, [], ⟨9, ⟨[⟨kk, b⟩], []⟩, [⟨[], []⟩]⟩, kk⟩) ?_
          rw [show lDrop ⟨9, ⟨[⟨kk, b⟩], []⟩, [⟨[], []⟩]⟩ = (⟨9, ⟨[], []⟩, []⟩, 0) from rfl]
          try simp (maxSteps := 2000000) only [↓RG, RP, true_and, and_true, beq_true, beq_false, Bool.true_beq, Bool.false_beq, BEq.rfl, Int.reduceEq, Int.reduceLT, Int.reduceLE, Nat.reduceEqDiff, decide_true, decide_false, Bool.not_true, Bool.not_false, Bool.and_true, Bool.true_and, Bool.and_false, Bool.false_and, Bool.or_true, Bool.true_or, Bool.or_false, Bool.false_or, Bool.not_not, hb1, hb2, hb4, hb8, hc]
          refine s_view_Read (b := v) (s := ⟨64, [], ⟨9, ⟨[], []⟩, []⟩, kk⟩) ?_
          rw [show vRead ⟨64, [], ⟨9, ⟨[], []⟩, []⟩, kk⟩ (kk : Int) = (⟨64, [], ⟨9, ⟨[], []⟩, []⟩, kk⟩, 0, 11) by unfold vRead; rw [if_pos (hv _ _ _)]; simp [lookR, lookC]]
          try simp (maxSteps := 2000000) only [↓RG, RP, true_and, and_true, beq_true, beq_false, Bool.true_beq, Bool.false_beq, BEq.rfl, Int.reduceEq, Int.reduceLT, Int.reduceLE, Nat.reduceEqDiff, decide_true, decide_false, Bool.not_true, Bool.not_false, Bool.and_true, Bool.true_and, Bool.and_false, Bool.false_and, Bool.or_true, Bool.true_or, Bool.or_false, Bool.false_or, Bool.not_not, hb1, hb2, hb4, hb8, hc]
          refine G.joini2 ?_
          try simp (maxSteps := 2000000) only [↓RG, RP, true_and, and_true, beq_true, beq_false, Bool.true_beq, Bool.false_beq, BEq.rfl, Int.reduceEq, Int.reduceLT, Int.reduceLE, Nat.reduceEqDiff, decide_true, decide_false, Bool.not_true, Bool.not_false, Bool.and_true, Bool.true_and, Bool.and_false, Bool.false_and, Bool.or_true, Bool.true_or, Bool.or_false, Bool.false_or, Bool.not_not, hb1, hb2, hb4, hb8, hc]
          refine G.joini2 ?_
          try simp (maxSteps := 2000000) only [↓RG, RP, true_and, and_true, beq_true, beq_false, Bool.true_beq, Bool.false_beq, BEq.rfl, Int.reduceEq, Int.reduceLT, Int.reduceLE, Nat.reduceEqDiff, decide_true, decide_false, Bool.not_true, Bool.not_false, Bool.and_true, Bool.true_and, Bool.and_false, Bool.false_and, Bool.or_true, Bool.true_or, Bool.or_false, Bool.false_or, Bool.not_not, hb1, hb2, hb4, hb8, hc]
          exact hK.sub
        · skip
          have hc : IntKind.wrap .u8 (BitVec.ofInt IntKind.u8.bits how &&& BitVec.ofInt IntKind.u8.bits 12).toNat = 4 := h12.2 ⟨hb4, hb8⟩
          try simp (maxSteps := 2000000) only [↓RG, RP, true_and, and_true, beq_true, beq_false, Bool.true_beq, Bool.false_beq, BEq.rfl, Int.reduceEq, Int.reduceLT, Int.reduceLE, Nat.reduceEqDiff, decide_true, decide_false, Bool.not_true, Bool.not_false, Bool.and_true, Bool.true_and, Bool.and_false, Bool.false_and, Bool.or_true, Bool.true_or, Bool.or_false, Bool.false_or, Bool.not_not, hb1, hb2, hb4, hb8, hc]
          refine s_view_Open (b := v) (s := ⟨64, [], ⟨9, ⟨[], []⟩, []⟩, kk⟩) ?_
          rw [show lOpen ⟨9, ⟨[], []⟩, []⟩ = (⟨9, ⟨[], []⟩, [⟨[], []⟩]⟩, 0) from rfl]
          try simp (maxSteps := 2000000) only [↓RG, RP, true_and, and_true, beq_true, beq_false, Bool.true_beq, Bool.false_beq, BEq.rfl, Int.reduceEq, Int.reduceLT, Int.reduceLE, Nat.reduceEqDiff, decide_true, decide_false, Bool.not_true, Bool.not_false, Bool.and_true, Bool.true_and, Bool.and_false, Bool.false_and, Bool.or_true, Bool.true_or, Bool.or_false, Bool.false_or, Bool.not_not, hb1, hb2, hb4, hb8, hc]
          refine s_view_Write (b := v) (s := ⟨64, [], ⟨9, ⟨[], []⟩, [⟨[], []⟩]⟩, kk⟩) ?_
          rw [write_ok hk rfl (by simp [LvS.room, totalC])]
          try simp (maxSteps := 2000000) only [↓RG, RP, true_and, and_true, beq_true, beq_false, Bool.true_beq, Bool.false_beq, BEq.rfl, Int.reduceEq, Int.reduceLT, Int.reduceLE, Nat.reduceEqDiff, decide_true, decide_false, Bool.not_true, Bool.not_false, Bool.and_true, Bool.true_and, Bool.and_false, Bool.false_and, Bool.or_true, Bool.true_or, Bool.or_false, Bool.false_or, Bool.not_not, hb1, hb2, hb4, hb8, hc]
          refine G.joini0 ?_
          try simp (maxSteps := 2000000) only [↓RG, RP, true_and, and_true, beq_true, beq_false, Bool.true_beq, Bool.false_beq, BEq.rfl, Int.reduceEq, Int.reduceLT, Int.reduceLE, Nat.reduceEqDiff, decide_true, decide_false, Bool.not_true, Bool.not_false, Bool.and_true, Bool.true_and, Bool.and_false, Bool.false_and, Bool.or_true, Bool.true_or, Bool.or_false, Bool.false_or, Bool.not_not, hb1, hb2, hb4, hb8, hc]
          refine s_view_Keep (b := v) (s := ⟨64, [], ⟨9, ⟨[⟨kk, b⟩], []⟩, [⟨[], []⟩]⟩, kk⟩) (by simp [LvS.frees, freesR]) ?_
          rw [show lKeep ⟨9, ⟨[⟨kk, b⟩], []⟩, [⟨[], []⟩]⟩ = (⟨9, ⟨[⟨kk, b⟩], []⟩, []⟩, 0) by simp [lKeep, putsC, putC]]
          try simp (maxSteps := 2000000) only [↓RG, RP, true_and, and_true, beq_true, beq_false, Bool.true_beq, Bool.false_beq, BEq.rfl, Int.reduceEq, Int.reduceLT, Int.reduceLE, Nat.reduceEqDiff, decide_true, decide_false, Bool.not_true, Bool.not_false, Bool.and_true, Bool.true_and, Bool.and_false, Bool.false_and, Bool.or_true, Bool.true_or, Bool.or_false, Bool.false_or, Bool.not_not, hb1, hb2, hb4, hb8, hc]
          refine s_view_Read (b := v) (s := ⟨64, [], ⟨9, ⟨[⟨kk, b⟩], []⟩, []⟩, kk⟩) ?_
          rw [show vRead ⟨64, [], ⟨9, ⟨[⟨kk, b⟩], []⟩, []⟩, kk⟩ (kk : Int) = (⟨64, [], ⟨9, ⟨[⟨kk, b⟩], []⟩, []⟩, kk⟩, b, 0) by unfold vRead; rw [if_pos (hv _ _ _)]; simp [lookR, lookC]]
          try simp (maxSteps := 2000000) only [↓RG, RP, true_and, and_true, beq_true, beq_false, Bool.true_beq, Bool.false_beq, BEq.rfl, Int.reduceEq, Int.reduceLT, Int.reduceLE, Nat.reduceEqDiff, decide_true, decide_false, Bool.not_true, Bool.not_false, Bool.and_true, Bool.true_and, Bool.and_false, Bool.false_and, Bool.or_true, Bool.true_or, Bool.or_false, Bool.false_or, Bool.not_not, hb1, hb2, hb4, hb8, hc]
          refine G.joini2 ?_
          try simp (maxSteps := 2000000) only [↓RG, RP, true_and, and_true, beq_true, beq_false, Bool.true_beq, Bool.false_beq, BEq.rfl, Int.reduceEq, Int.reduceLT, Int.reduceLE, Nat.reduceEqDiff, decide_true, decide_false, Bool.not_true, Bool.not_false, Bool.and_true, Bool.true_and, Bool.and_false, Bool.false_and, Bool.or_true, Bool.true_or, Bool.or_false, Bool.false_or, Bool.not_not, hb1, hb2, hb4, hb8, hc]
          refine G.joini2 ?_
          try simp (maxSteps := 2000000) only [↓RG, RP, true_and, and_true, beq_true, beq_false, Bool.true_beq, Bool.false_beq, BEq.rfl, Int.reduceEq, Int.reduceLT, Int.reduceLE, Nat.reduceEqDiff, decide_true, decide_false, Bool.not_true, Bool.not_false, Bool.and_true, Bool.true_and, Bool.and_false, Bool.false_and, Bool.or_true, Bool.true_or, Bool.or_false, Bool.false_or, Bool.not_not, hb1, hb2, hb4, hb8, hc]
          exact hK.sub
      · skip
        by_cases hb8 : IntKind.wrap .u8 (BitVec.ofInt IntKind.u8.bits how &&& BitVec.ofInt IntKind.u8.bits 8).toNat = 8
        · skip
          have hc : ¬ (IntKind.wrap .u8 (BitVec.ofInt IntKind.u8.bits how &&& BitVec.ofInt IntKind.u8.bits 12).toNat = 4) := fun h => hb4 (h12.1 h).1
          try simp (maxSteps := 2000000) only [↓RG, RP, true_and, and_true, beq_true, beq_false, Bool.true_beq, Bool.false_beq, BEq.rfl, Int.reduceEq, Int.reduceLT, Int.reduceLE, Nat.reduceEqDiff, decide_true, decide_false, Bool.not_true, Bool.not_false, Bool.and_true, Bool.true_and, Bool.and_false, Bool.false_and, Bool.or_true, Bool.true_or, Bool.or_false, Bool.false_or, Bool.not_not, hb1, hb2, hb4, hb8, hc]
          refine s_view_Open (b := v) (s := ⟨64, [], ⟨9, ⟨[], []⟩, []⟩, kk⟩) ?_
          rw [show lOpen ⟨9, ⟨[], []⟩, []⟩ = (⟨9, ⟨[], []⟩, [⟨[], []⟩]⟩, 0) from rfl]
          try simp (maxSteps := 2000000) only [↓RG, RP, true_and, and_true, beq_true, beq_false, Bool.true_beq, Bool.false_beq, BEq.rfl, Int.reduceEq, Int.reduceLT, Int.reduceLE, Nat.reduceEqDiff, decide_true, decide_false, Bool.not_true, Bool.not_false, Bool.and_true, Bool.true_and, Bool.and_false, Bool.false_and, Bool.or_true, Bool.true_or, Bool.or_false, Bool.false_or, Bool.not_not, hb1, hb2, hb4, hb8, hc]
          refine G.joini0 ?_
          try simp (maxSteps := 2000000) only [↓RG, RP, true_and, and_true, beq_true, beq_false, Bool.true_beq, Bool.false_beq, BEq.rfl, Int.reduceEq, Int.reduceLT, Int.reduceLE, Nat.reduceEqDiff, decide_true, decide_false, Bool.not_true, Bool.not_false, Bool.and_true, Bool.true_and, Bool.and_false, Bool.false_and, Bool.or_true, Bool.true_or, Bool.or_false, Bool.false_or, Bool.not_not, hb1, hb2, hb4, hb8, hc]
          refine s_view_Drop (b := v) (s := ⟨64, [], ⟨9, ⟨[], []⟩, [⟨[], []⟩]⟩, kk⟩) ?_
          rw [show lDrop ⟨9, ⟨[], []⟩, [⟨[], []⟩]⟩ = (⟨9, ⟨[], []⟩, []⟩, 0) from rfl]
          try simp (maxSteps := 2000000) only [↓RG, RP, true_and, and_true, beq_true, beq_false, Bool.true_beq, Bool.false_beq, BEq.rfl, Int.reduceEq, Int.reduceLT, Int.reduceLE, Nat.reduceEqDiff, decide_true, decide_false, Bool.not_true, Bool.not_false, Bool.and_true, Bool.true_and, Bool.and_false, Bool.false_and, Bool.or_true, Bool.true_or, Bool.or_false, Bool.false_or, Bool.not_not, hb1, hb2, hb4, hb8, hc]
          refine s_view_Read (b := v) (s := ⟨64, [], ⟨9, ⟨[], []⟩, []⟩, kk⟩) ?_
          rw [show vRead ⟨64, [], ⟨9, ⟨[], []⟩, []⟩, kk⟩ (kk : Int) = (⟨64, [], ⟨9, ⟨[], []⟩, []⟩, kk⟩, 0, 11) by unfold vRead; rw [if_pos (hv _ _ _)]; simp [lookR, lookC]]
          try simp (maxSteps := 2000000) only [↓RG, RP, true_and, and_true, beq_true, beq_false, Bool.true_beq, Bool.false_beq, BEq.rfl, Int.reduceEq, Int.reduceLT, Int.reduceLE, Nat.reduceEqDiff, decide_true, decide_false, Bool.not_true, Bool.not_false, Bool.and_true, Bool.true_and, Bool.and_false, Bool.false_and, Bool.or_true, Bool.true_or, Bool.or_false, Bool.false_or, Bool.not_not, hb1, hb2, hb4, hb8, hc]
          refine G.joini2 ?_
          try simp (maxSteps := 2000000) only [↓RG, RP, true_and, and_true, beq_true, beq_false, Bool.true_beq, Bool.false_beq, BEq.rfl, Int.reduceEq, Int.reduceLT, Int.reduceLE, Nat.reduceEqDiff, decide_true, decide_false, Bool.not_true, Bool.not_false, Bool.and_true, Bool.true_and, Bool.and_false, Bool.false_and, Bool.or_true, Bool.true_or, Bool.or_false, Bool.false_or, Bool.not_not, hb1, hb2, hb4, hb8, hc]
          refine G.joini2 ?_
          try simp (maxSteps := 2000000) only [↓RG, RP, true_and, and_true, beq_true, beq_false, Bool.true_beq, Bool.false_beq, BEq.rfl, Int.reduceEq, Int.reduceLT, Int.reduceLE, Nat.reduceEqDiff, decide_true, decide_false, Bool.not_true, Bool.not_false, Bool.and_true, Bool.true_and, Bool.and_false, Bool.false_and, Bool.or_true, Bool.true_or, Bool.or_false, Bool.false_or, Bool.not_not, hb1, hb2, hb4, hb8, hc]
          exact hK.sub
        · skip
          have hc : ¬ (IntKind.wrap .u8 (BitVec.ofInt IntKind.u8.bits how &&& BitVec.ofInt IntKind.u8.bits 12).toNat = 4) := fun h => hb4 (h12.1 h).1
          try simp (maxSteps := 2000000) only [↓RG, RP, true_and, and_true, beq_true, beq_false, Bool.true_beq, Bool.false_beq, BEq.rfl, Int.reduceEq, Int.reduceLT, Int.reduceLE, Nat.reduceEqDiff, decide_true, decide_false, Bool.not_true, Bool.not_false, Bool.and_true, Bool.true_and, Bool.and_false, Bool.false_and, Bool.or_true, Bool.true_or, Bool.or_false, Bool.false_or, Bool.not_not, hb1, hb2, hb4, hb8, hc]
          refine s_view_Open (b := v) (s := ⟨64, [], ⟨9, ⟨[], []⟩, []⟩, kk⟩) ?_
          rw [show lOpen ⟨9, ⟨[], []⟩, []⟩ = (⟨9, ⟨[], []⟩, [⟨[], []⟩]⟩, 0) from rfl]
          try simp (maxSteps := 2000000) only [↓RG, RP, true_and, and_true, beq_true, beq_false, Bool.true_beq, Bool.false_beq, BEq.rfl, Int.reduceEq, Int.reduceLT, Int.reduceLE, Nat.reduceEqDiff, decide_true, decide_false, Bool.not_true, Bool.not_false, Bool.and_true, Bool.true_and, Bool.and_false, Bool.false_and, Bool.or_true, Bool.true_or, Bool.or_false, Bool.false_or, Bool.not_not, hb1, hb2, hb4, hb8, hc]
          refine G.joini0 ?_
          try simp (maxSteps := 2000000) only [↓RG, RP, true_and, and_true, beq_true, beq_false, Bool.true_beq, Bool.false_beq, BEq.rfl, Int.reduceEq, Int.reduceLT, Int.reduceLE, Nat.reduceEqDiff, decide_true, decide_false, Bool.not_true, Bool.not_false, Bool.and_true, Bool.true_and, Bool.and_false, Bool.false_and, Bool.or_true, Bool.true_or, Bool.or_false, Bool.false_or, Bool.not_not, hb1, hb2, hb4, hb8, hc]
          refine s_view_Keep (b := v) (s := ⟨64, [], ⟨9, ⟨[], []⟩, [⟨[], []⟩]⟩, kk⟩) (by simp [LvS.frees, freesR]) ?_
          rw [show lKeep ⟨9, ⟨[], []⟩, [⟨[], []⟩]⟩ = (⟨9, ⟨[], []⟩, []⟩, 0) by simp [lKeep, putsC, putC]]
          try simp (maxSteps := 2000000) only [↓RG, RP, true_and, and_true, beq_true, beq_false, Bool.true_beq, Bool.false_beq, BEq.rfl, Int.reduceEq, Int.reduceLT, Int.reduceLE, Nat.reduceEqDiff, decide_true, decide_false, Bool.not_true, Bool.not_false, Bool.and_true, Bool.true_and, Bool.and_false, Bool.false_and, Bool.or_true, Bool.true_or, Bool.or_false, Bool.false_or, Bool.not_not, hb1, hb2, hb4, hb8, hc]
          refine s_view_Read (b := v) (s := ⟨64, [], ⟨9, ⟨[], []⟩, []⟩, kk⟩) ?_
          rw [show vRead ⟨64, [], ⟨9, ⟨[], []⟩, []⟩, kk⟩ (kk : Int) = (⟨64, [], ⟨9, ⟨[], []⟩, []⟩, kk⟩, 0, 11) by unfold vRead; rw [if_pos (hv _ _ _)]; simp [lookR, lookC]]
          try simp (maxSteps := 2000000) only [↓RG, RP, true_and, and_true, beq_true, beq_false, Bool.true_beq, Bool.false_beq, BEq.rfl, Int.reduceEq, Int.reduceLT, Int.reduceLE, Nat.reduceEqDiff, decide_true, decide_false, Bool.not_true, Bool.not_false, Bool.and_true, Bool.true_and, Bool.and_false, Bool.false_and, Bool.or_true, Bool.true_or, Bool.or_false, Bool.false_or, Bool.not_not, hb1, hb2, hb4, hb8, hc]
          refine G.joini2 ?_
          try simp (maxSteps := 2000000) only [↓RG, RP, true_and, and_true, beq_true, beq_false, Bool.true_beq, Bool.false_beq, BEq.rfl, Int.reduceEq, Int.reduceLT, Int.reduceLE, Nat.reduceEqDiff, decide_true, decide_false, Bool.not_true, Bool.not_false, Bool.and_true, Bool.true_and, Bool.and_false, Bool.false_and, Bool.or_true, Bool.true_or, Bool.or_false, Bool.false_or, Bool.not_not, hb1, hb2, hb4, hb8, hc]
          refine G.joini2 ?_
          try simp (maxSteps := 2000000) only [↓RG, RP, true_and, and_true, beq_true, beq_false, Bool.true_beq, Bool.false_beq, BEq.rfl, Int.reduceEq, Int.reduceLT, Int.reduceLE, Nat.reduceEqDiff, decide_true, decide_false, Bool.not_true, Bool.not_false, Bool.and_true, Bool.true_and, Bool.and_false, Bool.false_and, Bool.or_true, Bool.true_or, Bool.or_false, Bool.false_or, Bool.not_not, hb1, hb2, hb4, hb8, hc]
          exact hK.sub

end
end Go.Proofs.Ytlgdcfocnaifbaa.S
