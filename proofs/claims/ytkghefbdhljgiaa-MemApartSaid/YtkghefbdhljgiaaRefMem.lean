/-
  CHAPTER 6, THE MODEL: what a memory is, what one thing does to it; the document's memory (quietusref1) does so.
-/
import Derived.Test.YtkghefbdhljgiaaStripe
import Derived.Test.YtkghefbdhljgiaaHeap
import Derived.Test.YtkghefbdhljgiaaEpoch
namespace Go.Proofs.Ytkghefbdhljgiaa.S
open Go Go.Proofs
set_option linter.unusedVariables false
set_option linter.unusedSimpArgs false

structure MemS where
  shape : TShape
  w : List Int
  l : List TLock
  n : Int
  s : List Int
  count : Int

def zeroAns : TAns := ⟨0, zeroLock, false, 0⟩
def errAns (e : Int) : TAns := ⟨0, zeroLock, false, e⟩

def memStep (m : MemS) (o : TOp) : MemS × TAns :=
  if o.kind = 1 then (if inHeap o.place m.w then (m, ⟨m.w.getD o.place.toNat 0, zeroLock, false, 0⟩) else (m, errAns 2))
  else if o.kind = 2 then (if inHeap o.place m.w then ({ m with w := m.w.set o.place.toNat o.word }, zeroAns) else (m, errAns 2))
  else if o.kind = 3 then (m, ⟨0, (loadRes m.l o.place).1, false, (loadRes m.l o.place).2⟩)
  else if o.kind = 4 then ({ m with l := (casRes m.l o.place o.was o.lock).1 }, ⟨0, zeroLock, (casRes m.l o.place o.was o.lock).2.1, (casRes m.l o.place o.was o.lock).2.2⟩)
  else if o.kind = 5 then ({ m with l := (storeRes m.l o.place o.lock).1 }, ⟨0, zeroLock, false, (storeRes m.l o.place o.lock).2⟩)
  else if o.kind = 6 then (m, ⟨m.n, zeroLock, false, 0⟩)
  else if o.kind = 7 then (if o.word ≤ o.old then (m, errAns 1) else if 4611686018427387904 ≤ o.word then (m, errAns 7) else if m.n = o.old then ({ m with n := o.word }, ⟨0, zeroLock, true, 0⟩) else (m, zeroAns))
  else if o.kind = 8 then (if inLen o.place m.s.length then (m, ⟨m.s.getD o.place.toNat 0, zeroLock, false, 0⟩) else (m, errAns 2))
  else if o.kind = 9 then (if inLen o.place m.s.length then ({ m with s := m.s.set o.place.toNat o.word }, zeroAns) else (m, errAns 2))
  else (m, errAns 1)

def memDo (m : MemS) (o : TOp) : MemS × TAns :=
  if (memStep m o).2.err = 0 then ({ (memStep m o).1 with count := IntKind.wrap .i64 ((memStep m o).1.count + 1) }, (memStep m o).2) else memStep m o

def heldShape (s : TShape) : TShape := ⟨held s.words 32 256, held s.stripes 1 16, held s.wide 1 16, held s.threads 1 4, if 4611686018427387904 ≤ s.start then 4611686018427387903 else s.start⟩
def newMem (s : TShape) : MemS := ⟨heldShape s, List.replicate (held s.words 32 256).toNat 0, List.replicate (held s.stripes 1 16).toNat zeroLock, (heldShape s).start, List.replicate (held s.threads 1 4).toNat 0, 0⟩

theorem casRes_length (ls : List TLock) (i : Int) (a b : TLock) : (casRes ls i a b).1.length = ls.length := by unfold casRes; split <;> (try split) <;> simp
theorem storeRes_length (ls : List TLock) (i : Int) (a : TLock) : (storeRes ls i a).1.length = ls.length := by unfold storeRes; split <;> simp

/-- the lengths stay -/
structure SameLen (m m' : MemS) : Prop where
  w : m'.w.length = m.w.length
  l : m'.l.length = m.l.length
  s : m'.s.length = m.s.length
  shape : m'.shape = m.shape
theorem SameLen.refl (m : MemS) : SameLen m m := ⟨rfl, rfl, rfl, rfl⟩
theorem SameLen.trans {a b c : MemS} (h : SameLen a b) (h' : SameLen b c) : SameLen a c := ⟨h'.w.trans h.w, h'.l.trans h.l, h'.s.trans h.s, h'.shape.trans h.shape⟩
theorem SameLen.ite {m : MemS} {c : Prop} [Decidable c] {a b : MemS × TAns} (h : SameLen m a.1) (h2 : SameLen m b.1) : SameLen m (if c then a else b).1 := by split <;> assumption
theorem memStep_len (m : MemS) (o : TOp) : SameLen m (memStep m o).1 := by
  unfold memStep
  repeat' apply SameLen.ite
  all_goals exact ⟨by simp, by simp [casRes_length, storeRes_length], by simp, rfl⟩
theorem memDo_len (m : MemS) (o : TOp) : SameLen m (memDo m o).1 := by
  have := memStep_len m o
  unfold memDo
  split
  · exact ⟨this.w, this.l, this.s, this.shape⟩
  · exact this

/-- the document's memory -/
def RMemR (b : Nat) (m : MemS) : Asn := exA fun vw => exA fun vl => exA fun vs => star (pureA (Cells vw [vw] ∧ Cells vl [vl] ∧ Cells vs [vs]))
  (star (star (star (own b [i64 m.shape.words, i64 m.shape.stripes, i64 m.shape.wide, i64 m.shape.threads, u64 m.shape.start, vw, vl, u64 m.n, vs, i64 m.count]) (sl wordE vw m.w)) (sl tLockE vl m.l)) (sl wordE vs m.s))

section
variable {w0 : Base} {L M : List Asn} {K : KV} {F : World → Prop} {C : Asn → List Asn} {b : Nat} {m : MemS} {o : TOp}

theorem RMemR_open : G w0 (ob RMemR b m :: M) F = ∀ vw vl vs, Cells vw [vw] ∧ Cells vl [vl] ∧ Cells vs [vs] →
    G w0 (own b [i64 m.shape.words, i64 m.shape.stripes, i64 m.shape.wide, i64 m.shape.threads, u64 m.shape.start, vw, vl, u64 m.n, vs, i64 m.count] :: sl wordE vw m.w :: sl tLockE vl m.l :: sl wordE vs m.s :: M) F := by
  rw [ob_eq, RMemR]
  simp only [G_ex, G_star, G_pure]

theorem s_ref1_Mem_word (hk : o.kind = 1 ∨ o.kind = 2) (hl : m.w.length ≤ 1000000) [i : SelOb L RMemR b m C] (hK : G w0 (C (ob RMemR b (memStep m o).1)) (K (.agg (TAns.cells (memStep m o).2).toArray))) :
    G w0 L (CP Try.prog Fn.ref1_Mem_word [ptr b 0, .agg (TOp.cells o).toArray] K) := by
  refine i.use (fun M hK => ?_) hK
  refine C_ref1_Mem_word ?_
  unfold S_ref1_Mem_word
  try simp (maxSteps := 2000000) only [fuse_and, fuse_or, fuse_step, fuse_pair, fuse_in, andP_true]
  refine G.box fun p => ?_
  refine G.new fun q => ?_
  rw [G_rot3, RMemR_open]
  intro vw vl vs ⟨h1, h2, h3⟩
  refine G.drew ?_
  try simp (maxSteps := 2000000) only [↓RG, RP, true_and, and_true, beq_true, beq_false, Bool.true_beq, Bool.false_beq, BEq.rfl, Int.reduceEq, Int.reduceLT, Int.reduceLE, Nat.reduceEqDiff, decide_true, decide_false, Bool.not_true, Bool.not_false, Bool.and_true, Bool.true_and, Bool.and_false, Bool.false_and, Bool.or_true, Bool.true_or, Bool.or_false, Bool.false_or, Bool.not_not]
  refine G.any (decide ((m.w.length : Int) ≤ o.place)) (fun _ K hK => by try simp (maxSteps := 2000000) only [↓RG, RP, true_and, and_true, beq_true, beq_false, Bool.true_beq, Bool.false_beq, BEq.rfl, Int.reduceEq, Int.reduceLT, Int.reduceLE, Nat.reduceEqDiff, decide_true, decide_false, Bool.not_true, Bool.not_false, Bool.and_true, Bool.true_and, Bool.and_false, Bool.false_and, Bool.or_true, Bool.true_or, Bool.or_false, Bool.false_or, Bool.not_not]; exact hK) ?_
  have hin : (decide (o.place < 1) || decide ((m.w.length : Int) ≤ o.place)) = !inHeap o.place m.w := by unfold inHeap; rw [Bool.eq_iff_iff]; simp <;> omega
  rw [hin]
  cases hb : inHeap o.place m.w
  · try simp (maxSteps := 2000000) only [↓RG, RP, true_and, and_true, beq_true, beq_false, Bool.true_beq, Bool.false_beq, BEq.rfl, Int.reduceEq, Int.reduceLT, Int.reduceLE, Nat.reduceEqDiff, decide_true, decide_false, Bool.not_true, Bool.not_false, Bool.and_true, Bool.true_and, Bool.and_false, Bool.false_and, Bool.or_true, Bool.true_or, Bool.or_false, Bool.false_or, Bool.not_not]
    have : memStep m o = (m, errAns 2) := by unfold memStep; rcases hk with hk | hk <;> simp [hk, hb]
    rw [this, RMemR_open] at hK
    exact (hK vw vl vs ⟨h1, h2, h3⟩).sub
  · obtain ⟨k, hkk, hk1, hkl⟩ := inHeap_elim hb
    rw [hkk] at hb
    have ix : IxI o.place k := ⟨hkk⟩
    have e := elem_of hkl
    rcases hk with hk | hk
    · have : memStep m o = (m, ⟨m.w[k], zeroLock, false, 0⟩) := by unfold memStep; simp [hk, hb, hkk, hkl]
      rw [this, RMemR_open] at hK
      try simp (maxSteps := 2000000) only [↓RG, RP, true_and, and_true, beq_true, beq_false, Bool.true_beq, Bool.false_beq, BEq.rfl, Int.reduceEq, Int.reduceLT, Int.reduceLE, Nat.reduceEqDiff, decide_true, decide_false, Bool.not_true, Bool.not_false, Bool.and_true, Bool.true_and, Bool.and_false, Bool.false_and, Bool.or_true, Bool.true_or, Bool.or_false, Bool.false_or, Bool.not_not, hk]
      refine G.drew ?_
      try simp (maxSteps := 2000000) only [↓RG, RP, true_and, and_true, beq_true, beq_false, Bool.true_beq, Bool.false_beq, BEq.rfl, Int.reduceEq, Int.reduceLT, Int.reduceLE, Nat.reduceEqDiff, decide_true, decide_false, Bool.not_true, Bool.not_false, Bool.and_true, Bool.true_and, Bool.and_false, Bool.false_and, Bool.or_true, Bool.true_or, Bool.or_false, Bool.false_or, Bool.not_not]
      exact (hK vw vl vs ⟨h1, h2, h3⟩).sub
    · have : memStep m o = ({ m with w := m.w.set k o.word }, zeroAns) := by unfold memStep; simp [hk, hb, hkk]
      rw [this, RMemR_open] at hK
      try simp (maxSteps := 2000000) only [↓RG, RP, true_and, and_true, beq_true, beq_false, Bool.true_beq, Bool.false_beq, BEq.rfl, Int.reduceEq, Int.reduceLT, Int.reduceLE, Nat.reduceEqDiff, decide_true, decide_false, Bool.not_true, Bool.not_false, Bool.and_true, Bool.true_and, Bool.and_false, Bool.false_and, Bool.or_true, Bool.true_or, Bool.or_false, Bool.false_or, Bool.not_not, hk]
      refine G.drew ?_
      try simp (maxSteps := 2000000) only [↓RG, RP, true_and, and_true, beq_true, beq_false, Bool.true_beq, Bool.false_beq, BEq.rfl, Int.reduceEq, Int.reduceLT, Int.reduceLE, Nat.reduceEqDiff, decide_true, decide_false, Bool.not_true, Bool.not_false, Bool.and_true, Bool.true_and, Bool.and_false, Bool.false_and, Bool.or_true, Bool.true_or, Bool.or_false, Bool.false_or, Bool.not_not]
      exact (hK vw vl vs ⟨h1, h2, h3⟩).sub

theorem s_ref1_Mem_lock (hk : o.kind = 3 ∨ o.kind = 4 ∨ o.kind = 5) [i : SelOb L RMemR b m C] (hK : G w0 (C (ob RMemR b (memStep m o).1)) (K (.agg (TAns.cells (memStep m o).2).toArray))) :
    G w0 L (CP Try.prog Fn.ref1_Mem_lock [ptr b 0, .agg (TOp.cells o).toArray] K) := by
  refine i.use (fun M hK => ?_) hK
  refine C_ref1_Mem_lock ?_
  unfold S_ref1_Mem_lock
  try simp (maxSteps := 2000000) only [fuse_and, fuse_or, fuse_step, fuse_pair, fuse_in, andP_true]
  refine G.box fun p => ?_
  refine G.new fun q => ?_
  rw [G_rot3, RMemR_open]
  intro vw vl vs ⟨h1, h2, h3⟩
  refine G.drew ?_
  try simp (maxSteps := 2000000) only [↓RG, RP, true_and, and_true, beq_true, beq_false, Bool.true_beq, Bool.false_beq, BEq.rfl, Int.reduceEq, Int.reduceLT, Int.reduceLE, Nat.reduceEqDiff, decide_true, decide_false, Bool.not_true, Bool.not_false, Bool.and_true, Bool.true_and, Bool.and_false, Bool.false_and, Bool.or_true, Bool.true_or, Bool.or_false, Bool.false_or, Bool.not_not]
  refine G.any (decide ((m.l.length : Int) ≤ o.place)) (fun _ K hK => by try simp (maxSteps := 2000000) only [↓RG, RP, true_and, and_true, beq_true, beq_false, Bool.true_beq, Bool.false_beq, BEq.rfl, Int.reduceEq, Int.reduceLT, Int.reduceLE, Nat.reduceEqDiff, decide_true, decide_false, Bool.not_true, Bool.not_false, Bool.and_true, Bool.true_and, Bool.and_false, Bool.false_and, Bool.or_true, Bool.true_or, Bool.or_false, Bool.false_or, Bool.not_not]; exact hK) ?_
  have hin : (decide (o.place < 0) || decide ((m.l.length : Int) ≤ o.place)) = !inLen o.place m.l.length := by unfold inLen; rw [Bool.eq_iff_iff]; simp <;> omega
  rw [hin]
  cases hb : inLen o.place m.l.length
  · try simp (maxSteps := 2000000) only [↓RG, RP, true_and, and_true, beq_true, beq_false, Bool.true_beq, Bool.false_beq, BEq.rfl, Int.reduceEq, Int.reduceLT, Int.reduceLE, Nat.reduceEqDiff, decide_true, decide_false, Bool.not_true, Bool.not_false, Bool.and_true, Bool.true_and, Bool.and_false, Bool.false_and, Bool.or_true, Bool.true_or, Bool.or_false, Bool.false_or, Bool.not_not]
    have : memStep m o = (m, errAns 2) := by unfold memStep loadRes casRes storeRes mayErr; rcases hk with hk | hk | hk <;> simp [hk, hb, errAns]
    rw [this, RMemR_open] at hK
    exact (hK vw vl vs ⟨h1, h2, h3⟩).sub
  · obtain ⟨k, hkk, hkl⟩ := inLen_elim hb
    rw [hkk] at hb
    have ix : IxI o.place k := ⟨hkk⟩
    have e := elem_of hkl
    have hg : m.l.getD k zeroLock = m.l[k] := getD_lock hkl
    have hm : mayErr m.l (k : Int) o.lock = if isLock o.lock = true then 0 else 1 := by unfold mayErr; rw [hb]; rfl
    rcases hk with hk | hk
    · have : memStep m o = (m, ⟨0, m.l[k], false, 0⟩) := by unfold memStep loadRes; simp only [hk, hb, hkk, Int.toNat_natCast, hg, if_true]; simp
      rw [this, RMemR_open] at hK
      try simp (maxSteps := 2000000) only [↓RG, RP, true_and, and_true, beq_true, beq_false, Bool.true_beq, Bool.false_beq, BEq.rfl, Int.reduceEq, Int.reduceLT, Int.reduceLE, Nat.reduceEqDiff, decide_true, decide_false, Bool.not_true, Bool.not_false, Bool.and_true, Bool.true_and, Bool.and_false, Bool.false_and, Bool.or_true, Bool.true_or, Bool.or_false, Bool.false_or, Bool.not_not, hk]
      refine G.drew ?_
      try simp (maxSteps := 2000000) only [↓RG, RP, true_and, and_true, beq_true, beq_false, Bool.true_beq, Bool.false_beq, BEq.rfl, Int.reduceEq, Int.reduceLT, Int.reduceLE, Nat.reduceEqDiff, decide_true, decide_false, Bool.not_true, Bool.not_false, Bool.and_true, Bool.true_and, Bool.and_false, Bool.false_and, Bool.or_true, Bool.true_or, Bool.or_false, Bool.false_or, Bool.not_not]
      exact (hK vw vl vs ⟨h1, h2, h3⟩).sub
    · have hk3 : ¬ o.kind = 3 := by rcases hk with hk | hk <;> omega
      try simp (maxSteps := 2000000) only [↓RG, RP, true_and, and_true, beq_true, beq_false, Bool.true_beq, Bool.false_beq, BEq.rfl, Int.reduceEq, Int.reduceLT, Int.reduceLE, Nat.reduceEqDiff, decide_true, decide_false, Bool.not_true, Bool.not_false, Bool.and_true, Bool.true_and, Bool.and_false, Bool.false_and, Bool.or_true, Bool.true_or, Bool.or_false, Bool.false_or, Bool.not_not, hk3]
      refine s_ref1_IsLock ?_
      cases hi : isLock o.lock
      · have : memStep m o = (m, errAns 1) := by unfold memStep casRes storeRes; rw [hkk, hm]; rcases hk with hk | hk <;> simp [hk, hi, errAns]
        rw [this, RMemR_open] at hK
        try simp (maxSteps := 2000000) only [↓RG, RP, true_and, and_true, beq_true, beq_false, Bool.true_beq, Bool.false_beq, BEq.rfl, Int.reduceEq, Int.reduceLT, Int.reduceLE, Nat.reduceEqDiff, decide_true, decide_false, Bool.not_true, Bool.not_false, Bool.and_true, Bool.true_and, Bool.and_false, Bool.false_and, Bool.or_true, Bool.true_or, Bool.or_false, Bool.false_or, Bool.not_not, hi]
        exact (hK vw vl vs ⟨h1, h2, h3⟩).sub
      · rcases hk with hk | hk
        · try simp (maxSteps := 2000000) only [↓RG, RP, true_and, and_true, beq_true, beq_false, Bool.true_beq, Bool.false_beq, BEq.rfl, Int.reduceEq, Int.reduceLT, Int.reduceLE, Nat.reduceEqDiff, decide_true, decide_false, Bool.not_true, Bool.not_false, Bool.and_true, Bool.true_and, Bool.and_false, Bool.false_and, Bool.or_true, Bool.true_or, Bool.or_false, Bool.false_or, Bool.not_not, hi, hk]
          refine G.drew ?_
          simp only [↓RG, RP, true_and, and_true, beq_true, beq_false, Bool.true_beq, Bool.false_beq, BEq.rfl, Int.reduceEq, Int.reduceLT, Int.reduceLE, Nat.reduceEqDiff, decide_true, decide_false, Bool.not_true, Bool.not_false, Bool.and_true, Bool.true_and, Bool.and_false, Bool.false_and, Bool.or_true, Bool.true_or, Bool.or_false, Bool.false_or, Bool.not_not, TLock.eqb m.l[k] o.was]
          by_cases he : m.l[k] = o.was
          · have : memStep m o = ({ m with l := m.l.set k o.lock }, ⟨0, zeroLock, true, 0⟩) := by unfold memStep casRes; rw [hkk, hm]; simp only [hk, hi, Int.toNat_natCast, hg, he, if_true]; simp
            rw [this, RMemR_open] at hK
            try simp (maxSteps := 2000000) only [↓RG, RP, true_and, and_true, beq_true, beq_false, Bool.true_beq, Bool.false_beq, BEq.rfl, Int.reduceEq, Int.reduceLT, Int.reduceLE, Nat.reduceEqDiff, decide_true, decide_false, Bool.not_true, Bool.not_false, Bool.and_true, Bool.true_and, Bool.and_false, Bool.false_and, Bool.or_true, Bool.true_or, Bool.or_false, Bool.false_or, Bool.not_not, he]
            refine G.drew ?_
            try simp (maxSteps := 2000000) only [↓RG, RP, true_and, and_true, beq_true, beq_false, Bool.true_beq, Bool.false_beq, BEq.rfl, Int.reduceEq, Int.reduceLT, Int.reduceLE, Nat.reduceEqDiff, decide_true, decide_false, Bool.not_true, Bool.not_false, Bool.and_true, Bool.true_and, Bool.and_false, Bool.false_and, Bool.or_true, Bool.true_or, Bool.or_false, Bool.false_or, Bool.not_not]
            exact (hK vw vl vs ⟨h1, h2, h3⟩).sub
          · have : memStep m o = (m, zeroAns) := by unfold memStep casRes; rw [hkk, hm]; simp only [hk, hi, Int.toNat_natCast, hg, he, if_true, if_false]; simp [zeroAns]
            rw [this, RMemR_open] at hK
            try simp (maxSteps := 2000000) only [↓RG, RP, true_and, and_true, beq_true, beq_false, Bool.true_beq, Bool.false_beq, BEq.rfl, Int.reduceEq, Int.reduceLT, Int.reduceLE, Nat.reduceEqDiff, decide_true, decide_false, Bool.not_true, Bool.not_false, Bool.and_true, Bool.true_and, Bool.and_false, Bool.false_and, Bool.or_true, Bool.true_or, Bool.or_false, Bool.false_or, Bool.not_not, he]
            exact (hK vw vl vs ⟨h1, h2, h3⟩).sub
        · have : memStep m o = ({ m with l := m.l.set k o.lock }, zeroAns) := by unfold memStep storeRes; rw [hkk, hm]; simp only [hk, hi, Int.toNat_natCast, if_true]; simp [zeroAns]
          rw [this, RMemR_open] at hK
          try simp (maxSteps := 2000000) only [↓RG, RP, true_and, and_true, beq_true, beq_false, Bool.true_beq, Bool.false_beq, BEq.rfl, Int.reduceEq, Int.reduceLT, Int.reduceLE, Nat.reduceEqDiff, decide_true, decide_false, Bool.not_true, Bool.not_false, Bool.and_true, Bool.true_and, Bool.and_false, Bool.false_and, Bool.or_true, Bool.true_or, Bool.or_false, Bool.false_or, Bool.not_not, hi, hk]
          refine G.drew ?_
          try simp (maxSteps := 2000000) only [↓RG, RP, true_and, and_true, beq_true, beq_false, Bool.true_beq, Bool.false_beq, BEq.rfl, Int.reduceEq, Int.reduceLT, Int.reduceLE, Nat.reduceEqDiff, decide_true, decide_false, Bool.not_true, Bool.not_false, Bool.and_true, Bool.true_and, Bool.and_false, Bool.false_and, Bool.or_true, Bool.true_or, Bool.or_false, Bool.false_or, Bool.not_not]
          exact (hK vw vl vs ⟨h1, h2, h3⟩).sub

theorem s_ref1_Mem_clock (hk : o.kind = 6 ∨ o.kind = 7) [i : SelOb L RMemR b m C] (hK : G w0 (C (ob RMemR b (memStep m o).1)) (K (.agg (TAns.cells (memStep m o).2).toArray))) :
    G w0 L (CP Try.prog Fn.ref1_Mem_clock [ptr b 0, .agg (TOp.cells o).toArray] K) := by
  refine i.use (fun M hK => ?_) hK
  refine C_ref1_Mem_clock ?_
  unfold S_ref1_Mem_clock
  refine G.box fun p => ?_
  refine G.new fun q => ?_
  rw [G_rot3, RMemR_open]
  intro vw vl vs ⟨h1, h2, h3⟩
  rcases hk with hk | hk
  · have : memStep m o = (m, ⟨m.n, zeroLock, false, 0⟩) := by unfold memStep; simp [hk]
    rw [this, RMemR_open] at hK
    try simp (maxSteps := 2000000) only [↓RG, RP, true_and, and_true, beq_true, beq_false, Bool.true_beq, Bool.false_beq, BEq.rfl, Int.reduceEq, Int.reduceLT, Int.reduceLE, Nat.reduceEqDiff, decide_true, decide_false, Bool.not_true, Bool.not_false, Bool.and_true, Bool.true_and, Bool.and_false, Bool.false_and, Bool.or_true, Bool.true_or, Bool.or_false, Bool.false_or, Bool.not_not, hk]
    exact (hK vw vl vs ⟨h1, h2, h3⟩).sub
  · try simp (maxSteps := 2000000) only [↓RG, RP, true_and, and_true, beq_true, beq_false, Bool.true_beq, Bool.false_beq, BEq.rfl, Int.reduceEq, Int.reduceLT, Int.reduceLE, Nat.reduceEqDiff, decide_true, decide_false, Bool.not_true, Bool.not_false, Bool.and_true, Bool.true_and, Bool.and_false, Bool.false_and, Bool.or_true, Bool.true_or, Bool.or_false, Bool.false_or, Bool.not_not, hk]
    by_cases c1 : o.word ≤ o.old
    · have : memStep m o = (m, errAns 1) := by unfold memStep; simp [hk, c1]
      rw [this, RMemR_open] at hK
      try simp (maxSteps := 2000000) only [↓RG, RP, true_and, and_true, beq_true, beq_false, Bool.true_beq, Bool.false_beq, BEq.rfl, Int.reduceEq, Int.reduceLT, Int.reduceLE, Nat.reduceEqDiff, decide_true, decide_false, Bool.not_true, Bool.not_false, Bool.and_true, Bool.true_and, Bool.and_false, Bool.false_and, Bool.or_true, Bool.true_or, Bool.or_false, Bool.false_or, Bool.not_not, c1]
      exact (hK vw vl vs ⟨h1, h2, h3⟩).sub
    · by_cases c2 : 4611686018427387904 ≤ o.word
      · have : memStep m o = (m, errAns 7) := by unfold memStep; simp [hk, c1, c2]
        rw [this, RMemR_open] at hK
        try simp (maxSteps := 2000000) only [↓RG, RP, true_and, and_true, beq_true, beq_false, Bool.true_beq, Bool.false_beq, BEq.rfl, Int.reduceEq, Int.reduceLT, Int.reduceLE, Nat.reduceEqDiff, decide_true, decide_false, Bool.not_true, Bool.not_false, Bool.and_true, Bool.true_and, Bool.and_false, Bool.false_and, Bool.or_true, Bool.true_or, Bool.or_false, Bool.false_or, Bool.not_not, c1, c2]
        exact (hK vw vl vs ⟨h1, h2, h3⟩).sub
      · try simp (maxSteps := 2000000) only [↓RG, RP, true_and, and_true, beq_true, beq_false, Bool.true_beq, Bool.false_beq, BEq.rfl, Int.reduceEq, Int.reduceLT, Int.reduceLE, Nat.reduceEqDiff, decide_true, decide_false, Bool.not_true, Bool.not_false, Bool.and_true, Bool.true_and, Bool.and_false, Bool.false_and, Bool.or_true, Bool.true_or, Bool.or_false, Bool.false_or, Bool.not_not, c1, c2]
        refine G.drew ?_
        by_cases c3 : m.n = o.old
        · have : memStep m o = ({ m with n := o.word }, ⟨0, zeroLock, true, 0⟩) := by unfold memStep; simp [hk, c1, c2, c3]
          rw [this, RMemR_open] at hK
          try simp (maxSteps := 2000000) only [↓RG, RP, true_and, and_true, beq_true, beq_false, Bool.true_beq, Bool.false_beq, BEq.rfl, Int.reduceEq, Int.reduceLT, Int.reduceLE, Nat.reduceEqDiff, decide_true, decide_false, Bool.not_true, Bool.not_false, Bool.and_true, Bool.true_and, Bool.and_false, Bool.false_and, Bool.or_true, Bool.true_or, Bool.or_false, Bool.false_or, Bool.not_not, c3]
          exact (hK vw vl vs ⟨h1, h2, h3⟩).sub
        · have : memStep m o = (m, zeroAns) := by unfold memStep; simp [hk, c1, c2, c3]
          rw [this, RMemR_open] at hK
          try simp (maxSteps := 2000000) only [↓RG, RP, true_and, and_true, beq_true, beq_false, Bool.true_beq, Bool.false_beq, BEq.rfl, Int.reduceEq, Int.reduceLT, Int.reduceLE, Nat.reduceEqDiff, decide_true, decide_false, Bool.not_true, Bool.not_false, Bool.and_true, Bool.true_and, Bool.and_false, Bool.false_and, Bool.or_true, Bool.true_or, Bool.or_false, Bool.false_or, Bool.not_not, c3]
          exact (hK vw vl vs ⟨h1, h2, h3⟩).sub

/-- what comes behind the step: it is counted, if it did well -/
theorem mem_tail {m1 : MemS} {a : TAns} {p q p2 : Nat} {z y : List Value} (hz : z.length = 6)
    (hK : G w0 (ob RMemR b (if a.err = 0 then { m1 with count := IntKind.wrap .i64 (m1.count + 1) } else m1) :: M) (K (.agg (TAns.cells a).toArray))) :
    G w0 (own p [u64 a.word, u64 a.lock.version, .bool a.lock.held, i64 a.lock.owner, .bool a.done, i64 a.err] :: own q z :: own p2 y :: ob RMemR b m1 :: M) (fun w =>
      joinW0 (fun w => loadNW 6 (ptr p 0) (fun x13 w => storeW 6 (ptr q 0) x13 (fun x w => loadNW 6 (ptr q 0) (fun x15 w => K x15 w) w) w) w)
        (fun j3 w => condP (.bool (decide (a.err = 0))) (fun w => load1W (ptr b 9) (fun x18 w => binIntW .add x18 (.int .i64 1) (fun x19 w => storeW 1 (ptr b 9) x19 (fun x w => j3 w) w) w) w) (fun w => j3 w) w) w) := by
  obtain ⟨wd, ⟨lv, lh, lo⟩, dn, er⟩ := a
  match z, hz with
  | [z0, z1, z2, z3, z4, z5], _ =>
  simp only [TAns.cells] at hK ⊢
  refine G.joini0 ?_
  by_cases he : er = 0
  · try simp (maxSteps := 2000000) only [↓RG, RP, true_and, and_true, beq_true, beq_false, Bool.true_beq, Bool.false_beq, BEq.rfl, Int.reduceEq, Int.reduceLT, Int.reduceLE, Nat.reduceEqDiff, decide_true, decide_false, Bool.not_true, Bool.not_false, Bool.and_true, Bool.true_and, Bool.and_false, Bool.false_and, Bool.or_true, Bool.true_or, Bool.or_false, Bool.false_or, Bool.not_not, he]
    simp only [he, if_true] at hK
    rw [G_rot4, RMemR_open]
    intro vw vl vs hh
    try simp (maxSteps := 2000000) only [↓RG, RP, true_and, and_true, beq_true, beq_false, Bool.true_beq, Bool.false_beq, BEq.rfl, Int.reduceEq, Int.reduceLT, Int.reduceLE, Nat.reduceEqDiff, decide_true, decide_false, Bool.not_true, Bool.not_false, Bool.and_true, Bool.true_and, Bool.and_false, Bool.false_and, Bool.or_true, Bool.true_or, Bool.or_false, Bool.false_or, Bool.not_not]
    rw [RMemR_open] at hK
    exact (hK vw vl vs hh).sub
  · try simp (maxSteps := 2000000) only [↓RG, RP, true_and, and_true, beq_true, beq_false, Bool.true_beq, Bool.false_beq, BEq.rfl, Int.reduceEq, Int.reduceLT, Int.reduceLE, Nat.reduceEqDiff, decide_true, decide_false, Bool.not_true, Bool.not_false, Bool.and_true, Bool.true_and, Bool.and_false, Bool.false_and, Bool.or_true, Bool.true_or, Bool.or_false, Bool.false_or, Bool.not_not, he]
    simp only [he, if_false] at hK
    exact hK.sub

theorem s_ref1_Mem_Do (hl : m.w.length ≤ 1000000) [i : SelOb L RMemR b m C] (hK : G w0 (C (ob RMemR b (memDo m o).1)) (K (.agg (TAns.cells (memDo m o).2).toArray))) :
    G w0 L (CP Try.prog Fn.ref1_Mem_Do [ptr b 0, .agg (TOp.cells o).toArray] K) := by
  refine i.use (fun M hK => ?_) hK
  have hK : G w0 (ob RMemR b (if (memStep m o).2.err = 0 then { (memStep m o).1 with count := IntKind.wrap .i64 ((memStep m o).1.count + 1) } else (memStep m o).1) :: M) (K (.agg (TAns.cells (memStep m o).2).toArray)) := by
    unfold memDo at hK; split at hK <;> rename_i he <;> simp only [he, if_true, if_false] <;> exact hK
  refine C_ref1_Mem_Do ?_
  unfold S_ref1_Mem_Do
  try simp (maxSteps := 2000000) only [fuse_and, fuse_or, fuse_step, fuse_pair, fuse_in, andP_true]
  refine G.box fun p => ?_
  refine G.new fun q => ?_
  try simp (maxSteps := 2000000) only [↓RG, RP, true_and, and_true, beq_true, beq_false, Bool.true_beq, Bool.false_beq, BEq.rfl, Int.reduceEq, Int.reduceLT, Int.reduceLE, Nat.reduceEqDiff, decide_true, decide_false, Bool.not_true, Bool.not_false, Bool.and_true, Bool.true_and, Bool.and_false, Bool.false_and, Bool.or_true, Bool.true_or, Bool.or_false, Bool.false_or, Bool.not_not]
  refine G.new fun r => ?_
  by_cases k1 : o.kind = 1 ∨ o.kind = 2
  · rcases id k1 with k | k
    · have k : o.kind = 1 := by assumption
      have f1 : decide (o.kind = 1) = true := decide_eq_true (by omega)
      have f2 : decide (o.kind = 2) = false := decide_eq_false (by omega)
      have f3 : decide (o.kind = 3) = false := decide_eq_false (by omega)
      have f4 : decide (o.kind = 4) = false := decide_eq_false (by omega)
      have f5 : decide (o.kind = 5) = false := decide_eq_false (by omega)
      have f6 : decide (o.kind = 6) = false := decide_eq_false (by omega)
      have f7 : decide (o.kind = 7) = false := decide_eq_false (by omega)
      have f8 : decide (o.kind = 8) = false := decide_eq_false (by omega)
      have f9 : decide (o.kind = 9) = false := decide_eq_false (by omega)
      try simp (maxSteps := 2000000) only [↓RG, RP, true_and, and_true, beq_true, beq_false, Bool.true_beq, Bool.false_beq, BEq.rfl, Int.reduceEq, Int.reduceLT, Int.reduceLE, Nat.reduceEqDiff, decide_true, decide_false, Bool.not_true, Bool.not_false, Bool.and_true, Bool.true_and, Bool.and_false, Bool.false_and, Bool.or_true, Bool.true_or, Bool.or_false, Bool.false_or, Bool.not_not, f1, f2, f3, f4, f5, f6, f7, f8, f9]
      refine G.joini1 ?_
      try simp (maxSteps := 2000000) only [↓RG, RP, true_and, and_true, beq_true, beq_false, Bool.true_beq, Bool.false_beq, BEq.rfl, Int.reduceEq, Int.reduceLT, Int.reduceLE, Nat.reduceEqDiff, decide_true, decide_false, Bool.not_true, Bool.not_false, Bool.and_true, Bool.true_and, Bool.and_false, Bool.false_and, Bool.or_true, Bool.true_or, Bool.or_false, Bool.false_or, Bool.not_not, f1, f2, f3, f4, f5, f6, f7, f8, f9]
      refine G.joini0 ?_
      try simp (maxSteps := 2000000) only [↓RG, RP, true_and, and_true, beq_true, beq_false, Bool.true_beq, Bool.false_beq, BEq.rfl, Int.reduceEq, Int.reduceLT, Int.reduceLE, Nat.reduceEqDiff, decide_true, decide_false, Bool.not_true, Bool.not_false, Bool.and_true, Bool.true_and, Bool.and_false, Bool.false_and, Bool.or_true, Bool.true_or, Bool.or_false, Bool.false_or, Bool.not_not, f1, f2, f3, f4, f5, f6, f7, f8, f9]
      refine s_ref1_Mem_word (m := m) (o := o) k1 hl ?_
      try simp (maxSteps := 2000000) only [↓RG, RP, true_and, and_true, beq_true, beq_false, Bool.true_beq, Bool.false_beq, BEq.rfl, Int.reduceEq, Int.reduceLT, Int.reduceLE, Nat.reduceEqDiff, decide_true, decide_false, Bool.not_true, Bool.not_false, Bool.and_true, Bool.true_and, Bool.and_false, Bool.false_and, Bool.or_true, Bool.true_or, Bool.or_false, Bool.false_or, Bool.not_not]
      refine mem_tail (m1 := (memStep m o).1) (a := (memStep m o).2) ?_ hK
      rfl
    · have k : o.kind = 2 := by assumption
      have f1 : decide (o.kind = 1) = false := decide_eq_false (by omega)
      have f2 : decide (o.kind = 2) = true := decide_eq_true (by omega)
      have f3 : decide (o.kind = 3) = false := decide_eq_false (by omega)
      have f4 : decide (o.kind = 4) = false := decide_eq_false (by omega)
      have f5 : decide (o.kind = 5) = false := decide_eq_false (by omega)
      have f6 : decide (o.kind = 6) = false := decide_eq_false (by omega)
      have f7 : decide (o.kind = 7) = false := decide_eq_false (by omega)
      have f8 : decide (o.kind = 8) = false := decide_eq_false (by omega)
      have f9 : decide (o.kind = 9) = false := decide_eq_false (by omega)
      try simp (maxSteps := 2000000) only [↓RG, RP, true_and, and_true, beq_true, beq_false, Bool.true_beq, Bool.false_beq, BEq.rfl, Int.reduceEq, Int.reduceLT, Int.reduceLE, Nat.reduceEqDiff, decide_true, decide_false, Bool.not_true, Bool.not_false, Bool.and_true, Bool.true_and, Bool.and_false, Bool.false_and, Bool.or_true, Bool.true_or, Bool.or_false, Bool.false_or, Bool.not_not, f1, f2, f3, f4, f5, f6, f7, f8, f9]
      refine G.joini1 ?_
      try simp (maxSteps := 2000000) only [↓RG, RP, true_and, and_true, beq_true, beq_false, Bool.true_beq, Bool.false_beq, BEq.rfl, Int.reduceEq, Int.reduceLT, Int.reduceLE, Nat.reduceEqDiff, decide_true, decide_false, Bool.not_true, Bool.not_false, Bool.and_true, Bool.true_and, Bool.and_false, Bool.false_and, Bool.or_true, Bool.true_or, Bool.or_false, Bool.false_or, Bool.not_not, f1, f2, f3, f4, f5, f6, f7, f8, f9]
      refine G.joini0 ?_
      try simp (maxSteps := 2000000) only [↓RG, RP, true_and, and_true, beq_true, beq_false, Bool.true_beq, Bool.false_beq, BEq.rfl, Int.reduceEq, Int.reduceLT, Int.reduceLE, Nat.reduceEqDiff, decide_true, decide_false, Bool.not_true, Bool.not_false, Bool.and_true, Bool.true_and, Bool.and_false, Bool.false_and, Bool.or_true, Bool.true_or, Bool.or_false, Bool.false_or, Bool.not_not, f1, f2, f3, f4, f5, f6, f7, f8, f9]
      refine s_ref1_Mem_word (m := m) (o := o) k1 hl ?_
      try simp (maxSteps := 2000000) only [↓RG, RP, true_and, and_true, beq_true, beq_false, Bool.true_beq, Bool.false_beq, BEq.rfl, Int.reduceEq, Int.reduceLT, Int.reduceLE, Nat.reduceEqDiff, decide_true, decide_false, Bool.not_true, Bool.not_false, Bool.and_true, Bool.true_and, Bool.and_false, Bool.false_and, Bool.or_true, Bool.true_or, Bool.or_false, Bool.false_or, Bool.not_not]
      refine mem_tail (m1 := (memStep m o).1) (a := (memStep m o).2) ?_ hK
      rfl
  by_cases k2 : o.kind = 3 ∨ o.kind = 4 ∨ o.kind = 5
  · rcases id k2 with k | k | k
    · have k : o.kind = 3 := by assumption
      have f1 : decide (o.kind = 1) = false := decide_eq_false (by omega)
      have f2 : decide (o.kind = 2) = false := decide_eq_false (by omega)
      have f3 : decide (o.kind = 3) = true := decide_eq_true (by omega)
      have f4 : decide (o.kind = 4) = false := decide_eq_false (by omega)
      have f5 : decide (o.kind = 5) = false := decide_eq_false (by omega)
      have f6 : decide (o.kind = 6) = false := decide_eq_false (by omega)
      have f7 : decide (o.kind = 7) = false := decide_eq_false (by omega)
      have f8 : decide (o.kind = 8) = false := decide_eq_false (by omega)
      have f9 : decide (o.kind = 9) = false := decide_eq_false (by omega)
      try simp (maxSteps := 2000000) only [↓RG, RP, true_and, and_true, beq_true, beq_false, Bool.true_beq, Bool.false_beq, BEq.rfl, Int.reduceEq, Int.reduceLT, Int.reduceLE, Nat.reduceEqDiff, decide_true, decide_false, Bool.not_true, Bool.not_false, Bool.and_true, Bool.true_and, Bool.and_false, Bool.false_and, Bool.or_true, Bool.true_or, Bool.or_false, Bool.false_or, Bool.not_not, f1, f2, f3, f4, f5, f6, f7, f8, f9]
      refine G.joini1 ?_
      try simp (maxSteps := 2000000) only [↓RG, RP, true_and, and_true, beq_true, beq_false, Bool.true_beq, Bool.false_beq, BEq.rfl, Int.reduceEq, Int.reduceLT, Int.reduceLE, Nat.reduceEqDiff, decide_true, decide_false, Bool.not_true, Bool.not_false, Bool.and_true, Bool.true_and, Bool.and_false, Bool.false_and, Bool.or_true, Bool.true_or, Bool.or_false, Bool.false_or, Bool.not_not, f1, f2, f3, f4, f5, f6, f7, f8, f9]
      refine G.joini0 ?_
      try simp (maxSteps := 2000000) only [↓RG, RP, true_and, and_true, beq_true, beq_false, Bool.true_beq, Bool.false_beq, BEq.rfl, Int.reduceEq, Int.reduceLT, Int.reduceLE, Nat.reduceEqDiff, decide_true, decide_false, Bool.not_true, Bool.not_false, Bool.and_true, Bool.true_and, Bool.and_false, Bool.false_and, Bool.or_true, Bool.true_or, Bool.or_false, Bool.false_or, Bool.not_not, f1, f2, f3, f4, f5, f6, f7, f8, f9]
      refine G.joini1 ?_
      try simp (maxSteps := 2000000) only [↓RG, RP, true_and, and_true, beq_true, beq_false, Bool.true_beq, Bool.false_beq, BEq.rfl, Int.reduceEq, Int.reduceLT, Int.reduceLE, Nat.reduceEqDiff, decide_true, decide_false, Bool.not_true, Bool.not_false, Bool.and_true, Bool.true_and, Bool.and_false, Bool.false_and, Bool.or_true, Bool.true_or, Bool.or_false, Bool.false_or, Bool.not_not, f1, f2, f3, f4, f5, f6, f7, f8, f9]
      refine G.joini0 ?_
      try simp (maxSteps := 2000000) only [↓RG, RP, true_and, and_true, beq_true, beq_false, Bool.true_beq, Bool.false_beq, BEq.rfl, Int.reduceEq, Int.reduceLT, Int.reduceLE, Nat.reduceEqDiff, decide_true, decide_false, Bool.not_true, Bool.not_false, Bool.and_true, Bool.true_and, Bool.and_false, Bool.false_and, Bool.or_true, Bool.true_or, Bool.or_false, Bool.false_or, Bool.not_not, f1, f2, f3, f4, f5, f6, f7, f8, f9]
      refine s_ref1_Mem_lock (m := m) (o := o) k2 ?_
      try simp (maxSteps := 2000000) only [↓RG, RP, true_and, and_true, beq_true, beq_false, Bool.true_beq, Bool.false_beq, BEq.rfl, Int.reduceEq, Int.reduceLT, Int.reduceLE, Nat.reduceEqDiff, decide_true, decide_false, Bool.not_true, Bool.not_false, Bool.and_true, Bool.true_and, Bool.and_false, Bool.false_and, Bool.or_true, Bool.true_or, Bool.or_false, Bool.false_or, Bool.not_not]
      refine mem_tail (m1 := (memStep m o).1) (a := (memStep m o).2) ?_ hK
      rfl
    · have k : o.kind = 4 := by assumption
      have f1 : decide (o.kind = 1) = false := decide_eq_false (by omega)
      have f2 : decide (o.kind = 2) = false := decide_eq_false (by omega)
      have f3 : decide (o.kind = 3) = false := decide_eq_false (by omega)
      have f4 : decide (o.kind = 4) = true := decide_eq_true (by omega)
      have f5 : decide (o.kind = 5) = false := decide_eq_false (by omega)
      have f6 : decide (o.kind = 6) = false := decide_eq_false (by omega)
      have f7 : decide (o.kind = 7) = false := decide_eq_false (by omega)
      have f8 : decide (o.kind = 8) = false := decide_eq_false (by omega)
      have f9 : decide (o.kind = 9) = false := decide_eq_false (by omega)
      try simp (maxSteps := 2000000) only [↓RG, RP, true_and, and_true, beq_true, beq_false, Bool.true_beq, Bool.false_beq, BEq.rfl, Int.reduceEq, Int.reduceLT, Int.reduceLE, Nat.reduceEqDiff, decide_true, decide_false, Bool.not_true, Bool.not_false, Bool.and_true, Bool.true_and, Bool.and_false, Bool.false_and, Bool.or_true, Bool.true_or, Bool.or_false, Bool.false_or, Bool.not_not, f1, f2, f3, f4, f5, f6, f7, f8, f9]
      refine G.joini1 ?_
      try simp (maxSteps := 2000000) only [↓RG, RP, true_and, and_true, beq_true, beq_false, Bool.true_beq, Bool.false_beq, BEq.rfl, Int.reduceEq, Int.reduceLT, Int.reduceLE, Nat.reduceEqDiff, decide_true, decide_false, Bool.not_true, Bool.not_false, Bool.and_true, Bool.true_and, Bool.and_false, Bool.false_and, Bool.or_true, Bool.true_or, Bool.or_false, Bool.false_or, Bool.not_not, f1, f2, f3, f4, f5, f6, f7, f8, f9]
      refine G.joini0 ?_
      try simp (maxSteps := 2000000) only [↓RG, RP, true_and, and_true, beq_true, beq_false, Bool.true_beq, Bool.false_beq, BEq.rfl, Int.reduceEq, Int.reduceLT, Int.reduceLE, Nat.reduceEqDiff, decide_true, decide_false, Bool.not_true, Bool.not_false, Bool.and_true, Bool.true_and, Bool.and_false, Bool.false_and, Bool.or_true, Bool.true_or, Bool.or_false, Bool.false_or, Bool.not_not, f1, f2, f3, f4, f5, f6, f7, f8, f9]
      refine G.joini1 ?_
      try simp (maxSteps := 2000000) only [↓RG, RP, true_and, and_true, beq_true, beq_false, Bool.true_beq, Bool.false_beq, BEq.rfl, Int.reduceEq, Int.reduceLT, Int.reduceLE, Nat.reduceEqDiff, decide_true, decide_false, Bool.not_true, Bool.not_false, Bool.and_true, Bool.true_and, Bool.and_false, Bool.false_and, Bool.or_true, Bool.true_or, Bool.or_false, Bool.false_or, Bool.not_not, f1, f2, f3, f4, f5, f6, f7, f8, f9]
      refine G.joini1 ?_
      try simp (maxSteps := 2000000) only [↓RG, RP, true_and, and_true, beq_true, beq_false, Bool.true_beq, Bool.false_beq, BEq.rfl, Int.reduceEq, Int.reduceLT, Int.reduceLE, Nat.reduceEqDiff, decide_true, decide_false, Bool.not_true, Bool.not_false, Bool.and_true, Bool.true_and, Bool.and_false, Bool.false_and, Bool.or_true, Bool.true_or, Bool.or_false, Bool.false_or, Bool.not_not, f1, f2, f3, f4, f5, f6, f7, f8, f9]
      refine G.joini0 ?_
      try simp (maxSteps := 2000000) only [↓RG, RP, true_and, and_true, beq_true, beq_false, Bool.true_beq, Bool.false_beq, BEq.rfl, Int.reduceEq, Int.reduceLT, Int.reduceLE, Nat.reduceEqDiff, decide_true, decide_false, Bool.not_true, Bool.not_false, Bool.and_true, Bool.true_and, Bool.and_false, Bool.false_and, Bool.or_true, Bool.true_or, Bool.or_false, Bool.false_or, Bool.not_not, f1, f2, f3, f4, f5, f6, f7, f8, f9]
      refine s_ref1_Mem_lock (m := m) (o := o) k2 ?_
      try simp (maxSteps := 2000000) only [↓RG, RP, true_and, and_true, beq_true, beq_false, Bool.true_beq, Bool.false_beq, BEq.rfl, Int.reduceEq, Int.reduceLT, Int.reduceLE, Nat.reduceEqDiff, decide_true, decide_false, Bool.not_true, Bool.not_false, Bool.and_true, Bool.true_and, Bool.and_false, Bool.false_and, Bool.or_true, Bool.true_or, Bool.or_false, Bool.false_or, Bool.not_not]
      refine mem_tail (m1 := (memStep m o).1) (a := (memStep m o).2) ?_ hK
      rfl
    · have k : o.kind = 5 := by assumption
      have f1 : decide (o.kind = 1) = false := decide_eq_false (by omega)
      have f2 : decide (o.kind = 2) = false := decide_eq_false (by omega)
      have f3 : decide (o.kind = 3) = false := decide_eq_false (by omega)
      have f4 : decide (o.kind = 4) = false := decide_eq_false (by omega)
      have f5 : decide (o.kind = 5) = true := decide_eq_true (by omega)
      have f6 : decide (o.kind = 6) = false := decide_eq_false (by omega)
      have f7 : decide (o.kind = 7) = false := decide_eq_false (by omega)
      have f8 : decide (o.kind = 8) = false := decide_eq_false (by omega)
      have f9 : decide (o.kind = 9) = false := decide_eq_false (by omega)
      try simp (maxSteps := 2000000) only [↓RG, RP, true_and, and_true, beq_true, beq_false, Bool.true_beq, Bool.false_beq, BEq.rfl, Int.reduceEq, Int.reduceLT, Int.reduceLE, Nat.reduceEqDiff, decide_true, decide_false, Bool.not_true, Bool.not_false, Bool.and_true, Bool.true_and, Bool.and_false, Bool.false_and, Bool.or_true, Bool.true_or, Bool.or_false, Bool.false_or, Bool.not_not, f1, f2, f3, f4, f5, f6, f7, f8, f9]
      refine G.joini1 ?_
      try simp (maxSteps := 2000000) only [↓RG, RP, true_and, and_true, beq_true, beq_false, Bool.true_beq, Bool.false_beq, BEq.rfl, Int.reduceEq, Int.reduceLT, Int.reduceLE, Nat.reduceEqDiff, decide_true, decide_false, Bool.not_true, Bool.not_false, Bool.and_true, Bool.true_and, Bool.and_false, Bool.false_and, Bool.or_true, Bool.true_or, Bool.or_false, Bool.false_or, Bool.not_not, f1, f2, f3, f4, f5, f6, f7, f8, f9]
      refine G.joini0 ?_
      try simp (maxSteps := 2000000) only [↓RG, RP, true_and, and_true, beq_true, beq_false, Bool.true_beq, Bool.false_beq, BEq.rfl, Int.reduceEq, Int.reduceLT, Int.reduceLE, Nat.reduceEqDiff, decide_true, decide_false, Bool.not_true, Bool.not_false, Bool.and_true, Bool.true_and, Bool.and_false, Bool.false_and, Bool.or_true, Bool.true_or, Bool.or_false, Bool.false_or, Bool.not_not, f1, f2, f3, f4, f5, f6, f7, f8, f9]
      refine G.joini1 ?_
      try simp (maxSteps := 2000000) only [↓RG, RP, true_and, and_true, beq_true, beq_false, Bool.true_beq, Bool.false_beq, BEq.rfl, Int.reduceEq, Int.reduceLT, Int.reduceLE, Nat.reduceEqDiff, decide_true, decide_false, Bool.not_true, Bool.not_false, Bool.and_true, Bool.true_and, Bool.and_false, Bool.false_and, Bool.or_true, Bool.true_or, Bool.or_false, Bool.false_or, Bool.not_not, f1, f2, f3, f4, f5, f6, f7, f8, f9]
      refine G.joini1 ?_
      try simp (maxSteps := 2000000) only [↓RG, RP, true_and, and_true, beq_true, beq_false, Bool.true_beq, Bool.false_beq, BEq.rfl, Int.reduceEq, Int.reduceLT, Int.reduceLE, Nat.reduceEqDiff, decide_true, decide_false, Bool.not_true, Bool.not_false, Bool.and_true, Bool.true_and, Bool.and_false, Bool.false_and, Bool.or_true, Bool.true_or, Bool.or_false, Bool.false_or, Bool.not_not, f1, f2, f3, f4, f5, f6, f7, f8, f9]
      refine G.joini0 ?_
      try simp (maxSteps := 2000000) only [↓RG, RP, true_and, and_true, beq_true, beq_false, Bool.true_beq, Bool.false_beq, BEq.rfl, Int.reduceEq, Int.reduceLT, Int.reduceLE, Nat.reduceEqDiff, decide_true, decide_false, Bool.not_true, Bool.not_false, Bool.and_true, Bool.true_and, Bool.and_false, Bool.false_and, Bool.or_true, Bool.true_or, Bool.or_false, Bool.false_or, Bool.not_not, f1, f2, f3, f4, f5, f6, f7, f8, f9]
      refine s_ref1_Mem_lock (m := m) (o := o) k2 ?_
      try simp (maxSteps := 2000000) only [↓RG, RP, true_and, and_true, beq_true, beq_false, Bool.true_beq, Bool.false_beq, BEq.rfl, Int.reduceEq, Int.reduceLT, Int.reduceLE, Nat.reduceEqDiff, decide_true, decide_false, Bool.not_true, Bool.not_false, Bool.and_true, Bool.true_and, Bool.and_false, Bool.false_and, Bool.or_true, Bool.true_or, Bool.or_false, Bool.false_or, Bool.not_not]
      refine mem_tail (m1 := (memStep m o).1) (a := (memStep m o).2) ?_ hK
      rfl
  by_cases k3 : o.kind = 6 ∨ o.kind = 7
  · rcases id k3 with k | k
    · have k : o.kind = 6 := by assumption
      have f1 : decide (o.kind = 1) = false := decide_eq_false (by omega)
      have f2 : decide (o.kind = 2) = false := decide_eq_false (by omega)
      have f3 : decide (o.kind = 3) = false := decide_eq_false (by omega)
      have f4 : decide (o.kind = 4) = false := decide_eq_false (by omega)
      have f5 : decide (o.kind = 5) = false := decide_eq_false (by omega)
      have f6 : decide (o.kind = 6) = true := decide_eq_true (by omega)
      have f7 : decide (o.kind = 7) = false := decide_eq_false (by omega)
      have f8 : decide (o.kind = 8) = false := decide_eq_false (by omega)
      have f9 : decide (o.kind = 9) = false := decide_eq_false (by omega)
      try simp (maxSteps := 2000000) only [↓RG, RP, true_and, and_true, beq_true, beq_false, Bool.true_beq, Bool.false_beq, BEq.rfl, Int.reduceEq, Int.reduceLT, Int.reduceLE, Nat.reduceEqDiff, decide_true, decide_false, Bool.not_true, Bool.not_false, Bool.and_true, Bool.true_and, Bool.and_false, Bool.false_and, Bool.or_true, Bool.true_or, Bool.or_false, Bool.false_or, Bool.not_not, f1, f2, f3, f4, f5, f6, f7, f8, f9]
      refine G.joini1 ?_
      try simp (maxSteps := 2000000) only [↓RG, RP, true_and, and_true, beq_true, beq_false, Bool.true_beq, Bool.false_beq, BEq.rfl, Int.reduceEq, Int.reduceLT, Int.reduceLE, Nat.reduceEqDiff, decide_true, decide_false, Bool.not_true, Bool.not_false, Bool.and_true, Bool.true_and, Bool.and_false, Bool.false_and, Bool.or_true, Bool.true_or, Bool.or_false, Bool.false_or, Bool.not_not, f1, f2, f3, f4, f5, f6, f7, f8, f9]
      refine G.joini0 ?_
      try simp (maxSteps := 2000000) only [↓RG, RP, true_and, and_true, beq_true, beq_false, Bool.true_beq, Bool.false_beq, BEq.rfl, Int.reduceEq, Int.reduceLT, Int.reduceLE, Nat.reduceEqDiff, decide_true, decide_false, Bool.not_true, Bool.not_false, Bool.and_true, Bool.true_and, Bool.and_false, Bool.false_and, Bool.or_true, Bool.true_or, Bool.or_false, Bool.false_or, Bool.not_not, f1, f2, f3, f4, f5, f6, f7, f8, f9]
      refine G.joini1 ?_
      try simp (maxSteps := 2000000) only [↓RG, RP, true_and, and_true, beq_true, beq_false, Bool.true_beq, Bool.false_beq, BEq.rfl, Int.reduceEq, Int.reduceLT, Int.reduceLE, Nat.reduceEqDiff, decide_true, decide_false, Bool.not_true, Bool.not_false, Bool.and_true, Bool.true_and, Bool.and_false, Bool.false_and, Bool.or_true, Bool.true_or, Bool.or_false, Bool.false_or, Bool.not_not, f1, f2, f3, f4, f5, f6, f7, f8, f9]
      refine G.joini1 ?_
      try simp (maxSteps := 2000000) only [↓RG, RP, true_and, and_true, beq_true, beq_false, Bool.true_beq, Bool.false_beq, BEq.rfl, Int.reduceEq, Int.reduceLT, Int.reduceLE, Nat.reduceEqDiff, decide_true, decide_false, Bool.not_true, Bool.not_false, Bool.and_true, Bool.true_and, Bool.and_false, Bool.false_and, Bool.or_true, Bool.true_or, Bool.or_false, Bool.false_or, Bool.not_not, f1, f2, f3, f4, f5, f6, f7, f8, f9]
      refine G.joini0 ?_
      try simp (maxSteps := 2000000) only [↓RG, RP, true_and, and_true, beq_true, beq_false, Bool.true_beq, Bool.false_beq, BEq.rfl, Int.reduceEq, Int.reduceLT, Int.reduceLE, Nat.reduceEqDiff, decide_true, decide_false, Bool.not_true, Bool.not_false, Bool.and_true, Bool.true_and, Bool.and_false, Bool.false_and, Bool.or_true, Bool.true_or, Bool.or_false, Bool.false_or, Bool.not_not, f1, f2, f3, f4, f5, f6, f7, f8, f9]
      refine G.joini1 ?_
      try simp (maxSteps := 2000000) only [↓RG, RP, true_and, and_true, beq_true, beq_false, Bool.true_beq, Bool.false_beq, BEq.rfl, Int.reduceEq, Int.reduceLT, Int.reduceLE, Nat.reduceEqDiff, decide_true, decide_false, Bool.not_true, Bool.not_false, Bool.and_true, Bool.true_and, Bool.and_false, Bool.false_and, Bool.or_true, Bool.true_or, Bool.or_false, Bool.false_or, Bool.not_not, f1, f2, f3, f4, f5, f6, f7, f8, f9]
      refine G.joini0 ?_
      try simp (maxSteps := 2000000) only [↓RG, RP, true_and, and_true, beq_true, beq_false, Bool.true_beq, Bool.false_beq, BEq.rfl, Int.reduceEq, Int.reduceLT, Int.reduceLE, Nat.reduceEqDiff, decide_true, decide_false, Bool.not_true, Bool.not_false, Bool.and_true, Bool.true_and, Bool.and_false, Bool.false_and, Bool.or_true, Bool.true_or, Bool.or_false, Bool.false_or, Bool.not_not, f1, f2, f3, f4, f5, f6, f7, f8, f9]
      refine s_ref1_Mem_clock (m := m) (o := o) k3 ?_
      try simp (maxSteps := 2000000) only [↓RG, RP, true_and, and_true, beq_true, beq_false, Bool.true_beq, Bool.false_beq, BEq.rfl, Int.reduceEq, Int.reduceLT, Int.reduceLE, Nat.reduceEqDiff, decide_true, decide_false, Bool.not_true, Bool.not_false, Bool.and_true, Bool.true_and, Bool.and_false, Bool.false_and, Bool.or_true, Bool.true_or, Bool.or_false, Bool.false_or, Bool.not_not]
      refine mem_tail (m1 := (memStep m o).1) (a := (memStep m o).2) ?_ hK
      rfl
    · have k : o.kind = 7 := by assumption
      have f1 : decide (o.kind = 1) = false := decide_eq_false (by omega)
      have f2 : decide (o.kind = 2) = false := decide_eq_false (by omega)
      have f3 : decide (o.kind = 3) = false := decide_eq_false (by omega)
      have f4 : decide (o.kind = 4) = false := decide_eq_false (by omega)
      have f5 : decide (o.kind = 5) = false := decide_eq_false (by omega)
      have f6 : decide (o.kind = 6) = false := decide_eq_false (by omega)
      have f7 : decide (o.kind = 7) = true := decide_eq_true (by omega)
      have f8 : decide (o.kind = 8) = false := decide_eq_false (by omega)
      have f9 : decide (o.kind = 9) = false := decide_eq_false (by omega)
      try simp (maxSteps := 2000000) only [↓RG, RP, true_and, and_true, beq_true, beq_false, Bool.true_beq, Bool.false_beq, BEq.rfl, Int.reduceEq, Int.reduceLT, Int.reduceLE, Nat.reduceEqDiff, decide_true, decide_false, Bool.not_true, Bool.not_false, Bool.and_true, Bool.true_and, Bool.and_false, Bool.false_and, Bool.or_true, Bool.true_or, Bool.or_false, Bool.false_or, Bool.not_not, f1, f2, f3, f4, f5, f6, f7, f8, f9]
      refine G.joini1 ?_
      try simp (maxSteps := 2000000) only [↓RG, RP, true_and, and_true, beq_true, beq_false, Bool.true_beq, Bool.false_beq, BEq.rfl, Int.reduceEq, Int.reduceLT, Int.reduceLE, Nat.reduceEqDiff, decide_true, decide_false, Bool.not_true, Bool.not_false, Bool.and_true, Bool.true_and, Bool.and_false, Bool.false_and, Bool.or_true, Bool.true_or, Bool.or_false, Bool.false_or, Bool.not_not, f1, f2, f3, f4, f5, f6, f7, f8, f9]
      refine G.joini0 ?_
      try simp (maxSteps := 2000000) only [↓RG, RP, true_and, and_true, beq_true, beq_false, Bool.true_beq, Bool.false_beq, BEq.rfl, Int.reduceEq, Int.reduceLT, Int.reduceLE, Nat.reduceEqDiff, decide_true, decide_false, Bool.not_true, Bool.not_false, Bool.and_true, Bool.true_and, Bool.and_false, Bool.false_and, Bool.or_true, Bool.true_or, Bool.or_false, Bool.false_or, Bool.not_not, f1, f2, f3, f4, f5, f6, f7, f8, f9]
      refine G.joini1 ?_
      try simp (maxSteps := 2000000) only [↓RG, RP, true_and, and_true, beq_true, beq_false, Bool.true_beq, Bool.false_beq, BEq.rfl, Int.reduceEq, Int.reduceLT, Int.reduceLE, Nat.reduceEqDiff, decide_true, decide_false, Bool.not_true, Bool.not_false, Bool.and_true, Bool.true_and, Bool.and_false, Bool.false_and, Bool.or_true, Bool.true_or, Bool.or_false, Bool.false_or, Bool.not_not, f1, f2, f3, f4, f5, f6, f7, f8, f9]
      refine G.joini1 ?_
      try simp (maxSteps := 2000000) only [↓RG, RP, true_and, and_true, beq_true, beq_false, Bool.true_beq, Bool.false_beq, BEq.rfl, Int.reduceEq, Int.reduceLT, Int.reduceLE, Nat.reduceEqDiff, decide_true, decide_false, Bool.not_true, Bool.not_false, Bool.and_true, Bool.true_and, Bool.and_false, Bool.false_and, Bool.or_true, Bool.true_or, Bool.or_false, Bool.false_or, Bool.not_not, f1, f2, f3, f4, f5, f6, f7, f8, f9]
      refine G.joini0 ?_
      try simp (maxSteps := 2000000) only [↓RG, RP, true_and, and_true, beq_true, beq_false, Bool.true_beq, Bool.false_beq, BEq.rfl, Int.reduceEq, Int.reduceLT, Int.reduceLE, Nat.reduceEqDiff, decide_true, decide_false, Bool.not_true, Bool.not_false, Bool.and_true, Bool.true_and, Bool.and_false, Bool.false_and, Bool.or_true, Bool.true_or, Bool.or_false, Bool.false_or, Bool.not_not, f1, f2, f3, f4, f5, f6, f7, f8, f9]
      refine G.joini1 ?_
      try simp (maxSteps := 2000000) only [↓RG, RP, true_and, and_true, beq_true, beq_false, Bool.true_beq, Bool.false_beq, BEq.rfl, Int.reduceEq, Int.reduceLT, Int.reduceLE, Nat.reduceEqDiff, decide_true, decide_false, Bool.not_true, Bool.not_false, Bool.and_true, Bool.true_and, Bool.and_false, Bool.false_and, Bool.or_true, Bool.true_or, Bool.or_false, Bool.false_or, Bool.not_not, f1, f2, f3, f4, f5, f6, f7, f8, f9]
      refine G.joini0 ?_
      try simp (maxSteps := 2000000) only [↓RG, RP, true_and, and_true, beq_true, beq_false, Bool.true_beq, Bool.false_beq, BEq.rfl, Int.reduceEq, Int.reduceLT, Int.reduceLE, Nat.reduceEqDiff, decide_true, decide_false, Bool.not_true, Bool.not_false, Bool.and_true, Bool.true_and, Bool.and_false, Bool.false_and, Bool.or_true, Bool.true_or, Bool.or_false, Bool.false_or, Bool.not_not, f1, f2, f3, f4, f5, f6, f7, f8, f9]
      refine s_ref1_Mem_clock (m := m) (o := o) k3 ?_
      try simp (maxSteps := 2000000) only [↓RG, RP, true_and, and_true, beq_true, beq_false, Bool.true_beq, Bool.false_beq, BEq.rfl, Int.reduceEq, Int.reduceLT, Int.reduceLE, Nat.reduceEqDiff, decide_true, decide_false, Bool.not_true, Bool.not_false, Bool.and_true, Bool.true_and, Bool.and_false, Bool.false_and, Bool.or_true, Bool.true_or, Bool.or_false, Bool.false_or, Bool.not_not]
      refine mem_tail (m1 := (memStep m o).1) (a := (memStep m o).2) ?_ hK
      rfl
  by_cases k4 : o.kind = 8 ∨ o.kind = 9
  · rcases id k4 with k | k
    · have k : o.kind = 8 := by assumption
      have f1 : decide (o.kind = 1) = false := decide_eq_false (by omega)
      have f2 : decide (o.kind = 2) = false := decide_eq_false (by omega)
      have f3 : decide (o.kind = 3) = false := decide_eq_false (by omega)
      have f4 : decide (o.kind = 4) = false := decide_eq_false (by omega)
      have f5 : decide (o.kind = 5) = false := decide_eq_false (by omega)
      have f6 : decide (o.kind = 6) = false := decide_eq_false (by omega)
      have f7 : decide (o.kind = 7) = false := decide_eq_false (by omega)
      have f8 : decide (o.kind = 8) = true := decide_eq_true (by omega)
      have f9 : decide (o.kind = 9) = false := decide_eq_false (by omega)
      try simp (maxSteps := 2000000) only [↓RG, RP, true_and, and_true, beq_true, beq_false, Bool.true_beq, Bool.false_beq, BEq.rfl, Int.reduceEq, Int.reduceLT, Int.reduceLE, Nat.reduceEqDiff, decide_true, decide_false, Bool.not_true, Bool.not_false, Bool.and_true, Bool.true_and, Bool.and_false, Bool.false_and, Bool.or_true, Bool.true_or, Bool.or_false, Bool.false_or, Bool.not_not, f1, f2, f3, f4, f5, f6, f7, f8, f9]
      refine G.joini1 ?_
      try simp (maxSteps := 2000000) only [↓RG, RP, true_and, and_true, beq_true, beq_false, Bool.true_beq, Bool.false_beq, BEq.rfl, Int.reduceEq, Int.reduceLT, Int.reduceLE, Nat.reduceEqDiff, decide_true, decide_false, Bool.not_true, Bool.not_false, Bool.and_true, Bool.true_and, Bool.and_false, Bool.false_and, Bool.or_true, Bool.true_or, Bool.or_false, Bool.false_or, Bool.not_not, f1, f2, f3, f4, f5, f6, f7, f8, f9]
      refine G.joini0 ?_
      try simp (maxSteps := 2000000) only [↓RG, RP, true_and, and_true, beq_true, beq_false, Bool.true_beq, Bool.false_beq, BEq.rfl, Int.reduceEq, Int.reduceLT, Int.reduceLE, Nat.reduceEqDiff, decide_true, decide_false, Bool.not_true, Bool.not_false, Bool.and_true, Bool.true_and, Bool.and_false, Bool.false_and, Bool.or_true, Bool.true_or, Bool.or_false, Bool.false_or, Bool.not_not, f1, f2, f3, f4, f5, f6, f7, f8, f9]
      refine G.joini1 ?_
      try simp (maxSteps := 2000000) only [↓RG, RP, true_and, and_true, beq_true, beq_false, Bool.true_beq, Bool.false_beq, BEq.rfl, Int.reduceEq, Int.reduceLT, Int.reduceLE, Nat.reduceEqDiff, decide_true, decide_false, Bool.not_true, Bool.not_false, Bool.and_true, Bool.true_and, Bool.and_false, Bool.false_and, Bool.or_true, Bool.true_or, Bool.or_false, Bool.false_or, Bool.not_not, f1, f2, f3, f4, f5, f6, f7, f8, f9]
      refine G.joini1 ?_
      try simp (maxSteps := 2000000) only [↓RG, RP, true_and, and_true, beq_true, beq_false, Bool.true_beq, Bool.false_beq, BEq.rfl, Int.reduceEq, Int.reduceLT, Int.reduceLE, Nat.reduceEqDiff, decide_true, decide_false, Bool.not_true, Bool.not_false, Bool.and_true, Bool.true_and, Bool.and_false, Bool.false_and, Bool.or_true, Bool.true_or, Bool.or_false, Bool.false_or, Bool.not_not, f1, f2, f3, f4, f5, f6, f7, f8, f9]
      refine G.joini0 ?_
      try simp (maxSteps := 2000000) only [↓RG, RP, true_and, and_true, beq_true, beq_false, Bool.true_beq, Bool.false_beq, BEq.rfl, Int.reduceEq, Int.reduceLT, Int.reduceLE, Nat.reduceEqDiff, decide_true, decide_false, Bool.not_true, Bool.not_false, Bool.and_true, Bool.true_and, Bool.and_false, Bool.false_and, Bool.or_true, Bool.true_or, Bool.or_false, Bool.false_or, Bool.not_not, f1, f2, f3, f4, f5, f6, f7, f8, f9]
      refine G.joini1 ?_
      try simp (maxSteps := 2000000) only [↓RG, RP, true_and, and_true, beq_true, beq_false, Bool.true_beq, Bool.false_beq, BEq.rfl, Int.reduceEq, Int.reduceLT, Int.reduceLE, Nat.reduceEqDiff, decide_true, decide_false, Bool.not_true, Bool.not_false, Bool.and_true, Bool.true_and, Bool.and_false, Bool.false_and, Bool.or_true, Bool.true_or, Bool.or_false, Bool.false_or, Bool.not_not, f1, f2, f3, f4, f5, f6, f7, f8, f9]
      refine G.joini0 ?_
      try simp (maxSteps := 2000000) only [↓RG, RP, true_and, and_true, beq_true, beq_false, Bool.true_beq, Bool.false_beq, BEq.rfl, Int.reduceEq, Int.reduceLT, Int.reduceLE, Nat.reduceEqDiff, decide_true, decide_false, Bool.not_true, Bool.not_false, Bool.and_true, Bool.true_and, Bool.and_false, Bool.false_and, Bool.or_true, Bool.true_or, Bool.or_false, Bool.false_or, Bool.not_not, f1, f2, f3, f4, f5, f6, f7, f8, f9]
      refine G.joini1 ?_
      try simp (maxSteps := 2000000) only [↓RG, RP, true_and, and_true, beq_true, beq_false, Bool.true_beq, Bool.false_beq, BEq.rfl, Int.reduceEq, Int.reduceLT, Int.reduceLE, Nat.reduceEqDiff, decide_true, decide_false, Bool.not_true, Bool.not_false, Bool.and_true, Bool.true_and, Bool.and_false, Bool.false_and, Bool.or_true, Bool.true_or, Bool.or_false, Bool.false_or, Bool.not_not, f1, f2, f3, f4, f5, f6, f7, f8, f9]
      refine G.joini0 ?_
      try simp (maxSteps := 2000000) only [↓RG, RP, true_and, and_true, beq_true, beq_false, Bool.true_beq, Bool.false_beq, BEq.rfl, Int.reduceEq, Int.reduceLT, Int.reduceLE, Nat.reduceEqDiff, decide_true, decide_false, Bool.not_true, Bool.not_false, Bool.and_true, Bool.true_and, Bool.and_false, Bool.false_and, Bool.or_true, Bool.true_or, Bool.or_false, Bool.false_or, Bool.not_not, f1, f2, f3, f4, f5, f6, f7, f8, f9]
      rw [G_rot4, RMemR_open]
      intro vw vl vs ⟨h1, h2, h3⟩
      refine G.drew ?_
      try simp (maxSteps := 2000000) only [↓RG, RP, true_and, and_true, beq_true, beq_false, Bool.true_beq, Bool.false_beq, BEq.rfl, Int.reduceEq, Int.reduceLT, Int.reduceLE, Nat.reduceEqDiff, decide_true, decide_false, Bool.not_true, Bool.not_false, Bool.and_true, Bool.true_and, Bool.and_false, Bool.false_and, Bool.or_true, Bool.true_or, Bool.or_false, Bool.false_or, Bool.not_not]
      refine G.any (decide ((m.s.length : Int) ≤ o.place)) (fun _ K hK => by try simp (maxSteps := 2000000) only [↓RG, RP, true_and, and_true, beq_true, beq_false, Bool.true_beq, Bool.false_beq, BEq.rfl, Int.reduceEq, Int.reduceLT, Int.reduceLE, Nat.reduceEqDiff, decide_true, decide_false, Bool.not_true, Bool.not_false, Bool.and_true, Bool.true_and, Bool.and_false, Bool.false_and, Bool.or_true, Bool.true_or, Bool.or_false, Bool.false_or, Bool.not_not]; exact hK) ?_
      have hin : (decide (o.place < 0) || decide ((m.s.length : Int) ≤ o.place)) = !inLen o.place m.s.length := by unfold inLen; rw [Bool.eq_iff_iff]; simp <;> omega
      rw [hin]
      cases hb : inLen o.place m.s.length
      · have hs : memStep m o = (m, errAns 2) := by unfold memStep; simp [k, hb]
        rw [hs] at hK
        simp only [errAns, Int.reduceEq, if_false] at hK
        try simp (maxSteps := 2000000) only [↓RG, RP, true_and, and_true, beq_true, beq_false, Bool.true_beq, Bool.false_beq, BEq.rfl, Int.reduceEq, Int.reduceLT, Int.reduceLE, Nat.reduceEqDiff, decide_true, decide_false, Bool.not_true, Bool.not_false, Bool.and_true, Bool.true_and, Bool.and_false, Bool.false_and, Bool.or_true, Bool.true_or, Bool.or_false, Bool.false_or, Bool.not_not]
        refine G.joini0 ?_
        try simp (maxSteps := 2000000) only [↓RG, RP, true_and, and_true, beq_true, beq_false, Bool.true_beq, Bool.false_beq, BEq.rfl, Int.reduceEq, Int.reduceLT, Int.reduceLE, Nat.reduceEqDiff, decide_true, decide_false, Bool.not_true, Bool.not_false, Bool.and_true, Bool.true_and, Bool.and_false, Bool.false_and, Bool.or_true, Bool.true_or, Bool.or_false, Bool.false_or, Bool.not_not]
        refine G.joini0 ?_
        try simp (maxSteps := 2000000) only [↓RG, RP, true_and, and_true, beq_true, beq_false, Bool.true_beq, Bool.false_beq, BEq.rfl, Int.reduceEq, Int.reduceLT, Int.reduceLE, Nat.reduceEqDiff, decide_true, decide_false, Bool.not_true, Bool.not_false, Bool.and_true, Bool.true_and, Bool.and_false, Bool.false_and, Bool.or_true, Bool.true_or, Bool.or_false, Bool.false_or, Bool.not_not]
        rw [RMemR_open] at hK
        exact (hK vw vl vs ⟨h1, h2, h3⟩).sub
      · obtain ⟨j, hj, hjl⟩ := inLen_elim hb
        have ix : IxI o.place j := ⟨hj⟩
        have e := elem_of hjl
        have hs : memStep m o = (m, ⟨m.s[j], zeroLock, false, 0⟩) := by unfold memStep; simp [k, hb]; simp [hj, hjl, zeroAns]
        rw [hs] at hK
        simp only [if_true, zeroAns] at hK
        try simp (maxSteps := 2000000) only [↓RG, RP, true_and, and_true, beq_true, beq_false, Bool.true_beq, Bool.false_beq, BEq.rfl, Int.reduceEq, Int.reduceLT, Int.reduceLE, Nat.reduceEqDiff, decide_true, decide_false, Bool.not_true, Bool.not_false, Bool.and_true, Bool.true_and, Bool.and_false, Bool.false_and, Bool.or_true, Bool.true_or, Bool.or_false, Bool.false_or, Bool.not_not]
        refine G.joini0 ?_
        try simp (maxSteps := 2000000) only [↓RG, RP, true_and, and_true, beq_true, beq_false, Bool.true_beq, Bool.false_beq, BEq.rfl, Int.reduceEq, Int.reduceLT, Int.reduceLE, Nat.reduceEqDiff, decide_true, decide_false, Bool.not_true, Bool.not_false, Bool.and_true, Bool.true_and, Bool.and_false, Bool.false_and, Bool.or_true, Bool.true_or, Bool.or_false, Bool.false_or, Bool.not_not, f1, f2, f3, f4, f5, f6, f7, f8, f9]
        refine G.joini0 ?_
        try simp (maxSteps := 2000000) only [↓RG, RP, true_and, and_true, beq_true, beq_false, Bool.true_beq, Bool.false_beq, BEq.rfl, Int.reduceEq, Int.reduceLT, Int.reduceLE, Nat.reduceEqDiff, decide_true, decide_false, Bool.not_true, Bool.not_false, Bool.and_true, Bool.true_and, Bool.and_false, Bool.false_and, Bool.or_true, Bool.true_or, Bool.or_false, Bool.false_or, Bool.not_not, f1, f2, f3, f4, f5, f6, f7, f8, f9]
        refine G.drew ?_
        try simp (maxSteps := 2000000) only [↓RG, RP, true_and, and_true, beq_true, beq_false, Bool.true_beq, Bool.false_beq, BEq.rfl, Int.reduceEq, Int.reduceLT, Int.reduceLE, Nat.reduceEqDiff, decide_true, decide_false, Bool.not_true, Bool.not_false, Bool.and_true, Bool.true_and, Bool.and_false, Bool.false_and, Bool.or_true, Bool.true_or, Bool.or_false, Bool.false_or, Bool.not_not]
        refine G.joini0 ?_
        try simp (maxSteps := 2000000) only [↓RG, RP, true_and, and_true, beq_true, beq_false, Bool.true_beq, Bool.false_beq, BEq.rfl, Int.reduceEq, Int.reduceLT, Int.reduceLE, Nat.reduceEqDiff, decide_true, decide_false, Bool.not_true, Bool.not_false, Bool.and_true, Bool.true_and, Bool.and_false, Bool.false_and, Bool.or_true, Bool.true_or, Bool.or_false, Bool.false_or, Bool.not_not]
        rw [RMemR_open] at hK
        exact (hK vw vl vs ⟨h1, h2, h3⟩).sub
    · have k : o.kind = 9 := by assumption
      have f1 : decide (o.kind = 1) = false := decide_eq_false (by omega)
      have f2 : decide (o.kind = 2) = false := decide_eq_false (by omega)
      have f3 : decide (o.kind = 3) = false := decide_eq_false (by omega)
      have f4 : decide (o.kind = 4) = false := decide_eq_false (by omega)
      have f5 : decide (o.kind = 5) = false := decide_eq_false (by omega)
      have f6 : decide (o.kind = 6) = false := decide_eq_false (by omega)
      have f7 : decide (o.kind = 7) = false := decide_eq_false (by omega)
      have f8 : decide (o.kind = 8) = false := decide_eq_false (by omega)
      have f9 : decide (o.kind = 9) = true := decide_eq_true (by omega)
      try simp (maxSteps := 2000000) only [↓RG, RP, true_and, and_true, beq_true, beq_false, Bool.true_beq, Bool.false_beq, BEq.rfl, Int.reduceEq, Int.reduceLT, Int.reduceLE, Nat.reduceEqDiff, decide_true, decide_false, Bool.not_true, Bool.not_false, Bool.and_true, Bool.true_and, Bool.and_false, Bool.false_and, Bool.or_true, Bool.true_or, Bool.or_false, Bool.false_or, Bool.not_not, f1, f2, f3, f4, f5, f6, f7, f8, f9]
      refine G.joini1 ?_
      try simp (maxSteps := 2000000) only [↓RG, RP, true_and, and_true, beq_true, beq_false, Bool.true_beq, Bool.false_beq, BEq.rfl, Int.reduceEq, Int.reduceLT, Int.reduceLE, Nat.reduceEqDiff, decide_true, decide_false, Bool.not_true, Bool.not_false, Bool.and_true, Bool.true_and, Bool.and_false, Bool.false_and, Bool.or_true, Bool.true_or, Bool.or_false, Bool.false_or, Bool.not_not, f1, f2, f3, f4, f5, f6, f7, f8, f9]
      refine G.joini0 ?_
      try simp (maxSteps := 2000000) only [↓RG, RP, true_and, and_true, beq_true, beq_false, Bool.true_beq, Bool.false_beq, BEq.rfl, Int.reduceEq, Int.reduceLT, Int.reduceLE, Nat.reduceEqDiff, decide_true, decide_false, Bool.not_true, Bool.not_false, Bool.and_true, Bool.true_and, Bool.and_false, Bool.false_and, Bool.or_true, Bool.true_or, Bool.or_false, Bool.false_or, Bool.not_not, f1, f2, f3, f4, f5, f6, f7, f8, f9]
      refine G.joini1 ?_
      try simp (maxSteps := 2000000) only [↓RG, RP, true_and, and_true, beq_true, beq_false, Bool.true_beq, Bool.false_beq, BEq.rfl, Int.reduceEq, Int.reduceLT, Int.reduceLE, Nat.reduceEqDiff, decide_true, decide_false, Bool.not_true, Bool.not_false, Bool.and_true, Bool.true_and, Bool.and_false, Bool.false_and, Bool.or_true, Bool.true_or, Bool.or_false, Bool.false_or, Bool.not_not, f1, f2, f3, f4, f5, f6, f7, f8, f9]
      refine G.joini1 ?_
      try simp (maxSteps := 2000000) only [↓RG, RP, true_and, and_true, beq_true, beq_false, Bool.true_beq, Bool.false_beq, BEq.rfl, Int.reduceEq, Int.reduceLT, Int.reduceLE, Nat.reduceEqDiff, decide_true, decide_false, Bool.not_true, Bool.not_false, Bool.and_true, Bool.true_and, Bool.and_false, Bool.false_and, Bool.or_true, Bool.true_or, Bool.or_false, Bool.false_or, Bool.not_not, f1, f2, f3, f4, f5, f6, f7, f8, f9]
      refine G.joini0 ?_
      try simp (maxSteps := 2000000) only [↓RG, RP, true_and, and_true, beq_true, beq_false, Bool.true_beq, Bool.false_beq, BEq.rfl, Int.reduceEq, Int.reduceLT, Int.reduceLE, Nat.reduceEqDiff, decide_true, decide_false, Bool.not_true, Bool.not_false, Bool.and_true, Bool.true_and, Bool.and_false, Bool.false_and, Bool.or_true, Bool.true_or, Bool.or_false, Bool.false_or, Bool.not_not, f1, f2, f3, f4, f5, f6, f7, f8, f9]
      refine G.joini1 ?_
      try simp (maxSteps := 2000000) only [↓RG, RP, true_and, and_true, beq_true, beq_false, Bool.true_beq, Bool.false_beq, BEq.rfl, Int.reduceEq, Int.reduceLT, Int.reduceLE, Nat.reduceEqDiff, decide_true, decide_false, Bool.not_true, Bool.not_false, Bool.and_true, Bool.true_and, Bool.and_false, Bool.false_and, Bool.or_true, Bool.true_or, Bool.or_false, Bool.false_or, Bool.not_not, f1, f2, f3, f4, f5, f6, f7, f8, f9]
      refine G.joini0 ?_
      try simp (maxSteps := 2000000) only [↓RG, RP, true_and, and_true, beq_true, beq_false, Bool.true_beq, Bool.false_beq, BEq.rfl, Int.reduceEq, Int.reduceLT, Int.reduceLE, Nat.reduceEqDiff, decide_true, decide_false, Bool.not_true, Bool.not_false, Bool.and_true, Bool.true_and, Bool.and_false, Bool.false_and, Bool.or_true, Bool.true_or, Bool.or_false, Bool.false_or, Bool.not_not, f1, f2, f3, f4, f5, f6, f7, f8, f9]
      refine G.joini1 ?_
      try simp (maxSteps := 2000000) only [↓RG, RP, true_and, and_true, beq_true, beq_false, Bool.true_beq, Bool.false_beq, BEq.rfl, Int.reduceEq, Int.reduceLT, Int.reduceLE, Nat.reduceEqDiff, decide_true, decide_false, Bool.not_true, Bool.not_false, Bool.and_true, Bool.true_and, Bool.and_false, Bool.false_and, Bool.or_true, Bool.true_or, Bool.or_false, Bool.false_or, Bool.not_not, f1, f2, f3, f4, f5, f6, f7, f8, f9]
      refine G.joini0 ?_
      try simp (maxSteps := 2000000) only [↓RG, RP, true_and, and_true, beq_true, beq_false, Bool.true_beq, Bool.false_beq, BEq.rfl, Int.reduceEq, Int.reduceLT, Int.reduceLE, Nat.reduceEqDiff, decide_true, decide_false, Bool.not_true, Bool.not_false, Bool.and_true, Bool.true_and, Bool.and_false, Bool.false_and, Bool.or_true, Bool.true_or, Bool.or_false, Bool.false_or, Bool.not_not, f1, f2, f3, f4, f5, f6, f7, f8, f9]
      rw [G_rot4, RMemR_open]
      intro vw vl vs ⟨h1, h2, h3⟩
      refine G.drew ?_
      try simp (maxSteps := 2000000) only [↓RG, RP, true_and, and_true, beq_true, beq_false, Bool.true_beq, Bool.false_beq, BEq.rfl, Int.reduceEq, Int.reduceLT, Int.reduceLE, Nat.reduceEqDiff, decide_true, decide_false, Bool.not_true, Bool.not_false, Bool.and_true, Bool.true_and, Bool.and_false, Bool.false_and, Bool.or_true, Bool.true_or, Bool.or_false, Bool.false_or, Bool.not_not]
      refine G.any (decide ((m.s.length : Int) ≤ o.place)) (fun _ K hK => by try simp (maxSteps := 2000000) only [↓RG, RP, true_and, and_true, beq_true, beq_false, Bool.true_beq, Bool.false_beq, BEq.rfl, Int.reduceEq, Int.reduceLT, Int.reduceLE, Nat.reduceEqDiff, decide_true, decide_false, Bool.not_true, Bool.not_false, Bool.and_true, Bool.true_and, Bool.and_false, Bool.false_and, Bool.or_true, Bool.true_or, Bool.or_false, Bool.false_or, Bool.not_not]; exact hK) ?_
      have hin : (decide (o.place < 0) || decide ((m.s.length : Int) ≤ o.place)) = !inLen o.place m.s.length := by unfold inLen; rw [Bool.eq_iff_iff]; simp <;> omega
      rw [hin]
      cases hb : inLen o.place m.s.length
      · have hs : memStep m o = (m, errAns 2) := by unfold memStep; simp [k, hb]
        rw [hs] at hK
        simp only [errAns, Int.reduceEq, if_false] at hK
        try simp (maxSteps := 2000000) only [↓RG, RP, true_and, and_true, beq_true, beq_false, Bool.true_beq, Bool.false_beq, BEq.rfl, Int.reduceEq, Int.reduceLT, Int.reduceLE, Nat.reduceEqDiff, decide_true, decide_false, Bool.not_true, Bool.not_false, Bool.and_true, Bool.true_and, Bool.and_false, Bool.false_and, Bool.or_true, Bool.true_or, Bool.or_false, Bool.false_or, Bool.not_not]
        refine G.joini0 ?_
        try simp (maxSteps := 2000000) only [↓RG, RP, true_and, and_true, beq_true, beq_false, Bool.true_beq, Bool.false_beq, BEq.rfl, Int.reduceEq, Int.reduceLT, Int.reduceLE, Nat.reduceEqDiff, decide_true, decide_false, Bool.not_true, Bool.not_false, Bool.and_true, Bool.true_and, Bool.and_false, Bool.false_and, Bool.or_true, Bool.true_or, Bool.or_false, Bool.false_or, Bool.not_not]
        refine G.joini0 ?_
        try simp (maxSteps := 2000000) only [↓RG, RP, true_and, and_true, beq_true, beq_false, Bool.true_beq, Bool.false_beq, BEq.rfl, Int.reduceEq, Int.reduceLT, Int.reduceLE, Nat.reduceEqDiff, decide_true, decide_false, Bool.not_true, Bool.not_false, Bool.and_true, Bool.true_and, Bool.and_false, Bool.false_and, Bool.or_true, Bool.true_or, Bool.or_false, Bool.false_or, Bool.not_not]
        rw [RMemR_open] at hK
        exact (hK vw vl vs ⟨h1, h2, h3⟩).sub
      · obtain ⟨j, hj, hjl⟩ := inLen_elim hb
        have ix : IxI o.place j := ⟨hj⟩
        have e := elem_of hjl
        have hs : memStep m o = ({ m with s := m.s.set j o.word }, zeroAns) := by unfold memStep; simp [k, hb]; simp [hj, hjl, zeroAns]
        rw [hs] at hK
        simp only [if_true, zeroAns] at hK
        try simp (maxSteps := 2000000) only [↓RG, RP, true_and, and_true, beq_true, beq_false, Bool.true_beq, Bool.false_beq, BEq.rfl, Int.reduceEq, Int.reduceLT, Int.reduceLE, Nat.reduceEqDiff, decide_true, decide_false, Bool.not_true, Bool.not_false, Bool.and_true, Bool.true_and, Bool.and_false, Bool.false_and, Bool.or_true, Bool.true_or, Bool.or_false, Bool.false_or, Bool.not_not]
        refine G.joini0 ?_
        try simp (maxSteps := 2000000) only [↓RG, RP, true_and, and_true, beq_true, beq_false, Bool.true_beq, Bool.false_beq, BEq.rfl, Int.reduceEq, Int.reduceLT, Int.reduceLE, Nat.reduceEqDiff, decide_true, decide_false, Bool.not_true, Bool.not_false, Bool.and_true, Bool.true_and, Bool.and_false, Bool.false_and, Bool.or_true, Bool.true_or, Bool.or_false, Bool.false_or, Bool.not_not, f1, f2, f3, f4, f5, f6, f7, f8, f9]
        refine G.joini0 ?_
        try simp (maxSteps := 2000000) only [↓RG, RP, true_and, and_true, beq_true, beq_false, Bool.true_beq, Bool.false_beq, BEq.rfl, Int.reduceEq, Int.reduceLT, Int.reduceLE, Nat.reduceEqDiff, decide_true, decide_false, Bool.not_true, Bool.not_false, Bool.and_true, Bool.true_and, Bool.and_false, Bool.false_and, Bool.or_true, Bool.true_or, Bool.or_false, Bool.false_or, Bool.not_not, f1, f2, f3, f4, f5, f6, f7, f8, f9]
        refine G.drew ?_
        try simp (maxSteps := 2000000) only [↓RG, RP, true_and, and_true, beq_true, beq_false, Bool.true_beq, Bool.false_beq, BEq.rfl, Int.reduceEq, Int.reduceLT, Int.reduceLE, Nat.reduceEqDiff, decide_true, decide_false, Bool.not_true, Bool.not_false, Bool.and_true, Bool.true_and, Bool.and_false, Bool.false_and, Bool.or_true, Bool.true_or, Bool.or_false, Bool.false_or, Bool.not_not]
        refine G.joini0 ?_
        try simp (maxSteps := 2000000) only [↓RG, RP, true_and, and_true, beq_true, beq_false, Bool.true_beq, Bool.false_beq, BEq.rfl, Int.reduceEq, Int.reduceLT, Int.reduceLE, Nat.reduceEqDiff, decide_true, decide_false, Bool.not_true, Bool.not_false, Bool.and_true, Bool.true_and, Bool.and_false, Bool.false_and, Bool.or_true, Bool.true_or, Bool.or_false, Bool.false_or, Bool.not_not]
        rw [RMemR_open] at hK
        exact (hK vw vl vs ⟨h1, h2, h3⟩).sub
  · have f1 : decide (o.kind = 1) = false := decide_eq_false (by omega)
    have f2 : decide (o.kind = 2) = false := decide_eq_false (by omega)
    have f3 : decide (o.kind = 3) = false := decide_eq_false (by omega)
    have f4 : decide (o.kind = 4) = false := decide_eq_false (by omega)
    have f5 : decide (o.kind = 5) = false := decide_eq_false (by omega)
    have f6 : decide (o.kind = 6) = false := decide_eq_false (by omega)
    have f7 : decide (o.kind = 7) = false := decide_eq_false (by omega)
    have f8 : decide (o.kind = 8) = false := decide_eq_false (by omega)
    have f9 : decide (o.kind = 9) = false := decide_eq_false (by omega)
    try simp (maxSteps := 2000000) only [↓RG, RP, true_and, and_true, beq_true, beq_false, Bool.true_beq, Bool.false_beq, BEq.rfl, Int.reduceEq, Int.reduceLT, Int.reduceLE, Nat.reduceEqDiff, decide_true, decide_false, Bool.not_true, Bool.not_false, Bool.and_true, Bool.true_and, Bool.and_false, Bool.false_and, Bool.or_true, Bool.true_or, Bool.or_false, Bool.false_or, Bool.not_not, f1, f2, f3, f4, f5, f6, f7, f8, f9]
    refine G.joini1 ?_
    try simp (maxSteps := 2000000) only [↓RG, RP, true_and, and_true, beq_true, beq_false, Bool.true_beq, Bool.false_beq, BEq.rfl, Int.reduceEq, Int.reduceLT, Int.reduceLE, Nat.reduceEqDiff, decide_true, decide_false, Bool.not_true, Bool.not_false, Bool.and_true, Bool.true_and, Bool.and_false, Bool.false_and, Bool.or_true, Bool.true_or, Bool.or_false, Bool.false_or, Bool.not_not, f1, f2, f3, f4, f5, f6, f7, f8, f9]
    refine G.joini0 ?_
    try simp (maxSteps := 2000000) only [↓RG, RP, true_and, and_true, beq_true, beq_false, Bool.true_beq, Bool.false_beq, BEq.rfl, Int.reduceEq, Int.reduceLT, Int.reduceLE, Nat.reduceEqDiff, decide_true, decide_false, Bool.not_true, Bool.not_false, Bool.and_true, Bool.true_and, Bool.and_false, Bool.false_and, Bool.or_true, Bool.true_or, Bool.or_false, Bool.false_or, Bool.not_not, f1, f2, f3, f4, f5, f6, f7, f8, f9]
    refine G.joini1 ?_
    try simp (maxSteps := 2000000) only [↓RG, RP, true_and, and_true, beq_true, beq_false, Bool.true_beq, Bool.false_beq, BEq.rfl, Int.reduceEq, Int.reduceLT, Int.reduceLE, Nat.reduceEqDiff, decide_true, decide_false, Bool.not_true, Bool.not_false, Bool.and_true, Bool.true_and, Bool.and_false, Bool.false_and, Bool.or_true, Bool.true_or, Bool.or_false, Bool.false_or, Bool.not_not, f1, f2, f3, f4, f5, f6, f7, f8, f9]
    refine G.joini1 ?_
    try simp (maxSteps := 2000000) only [↓RG, RP, true_and, and_true, beq_true, beq_false, Bool.true_beq, Bool.false_beq, BEq.rfl, Int.reduceEq, Int.reduceLT, Int.reduceLE, Nat.reduceEqDiff, decide_true, decide_false, Bool.not_true, Bool.not_false, Bool.and_true, Bool.true_and, Bool.and_false, Bool.false_and, Bool.or_true, Bool.true_or, Bool.or_false, Bool.false_or, Bool.not_not, f1, f2, f3, f4, f5, f6, f7, f8, f9]
    refine G.joini0 ?_
    try simp (maxSteps := 2000000) only [↓RG, RP, true_and, and_true, beq_true, beq_false, Bool.true_beq, Bool.false_beq, BEq.rfl, Int.reduceEq, Int.reduceLT, Int.reduceLE, Nat.reduceEqDiff, decide_true, decide_false, Bool.not_true, Bool.not_false, Bool.and_true, Bool.true_and, Bool.and_false, Bool.false_and, Bool.or_true, Bool.true_or, Bool.or_false, Bool.false_or, Bool.not_not, f1, f2, f3, f4, f5, f6, f7, f8, f9]
    refine G.joini1 ?_
    try simp (maxSteps := 2000000) only [↓RG, RP, true_and, and_true, beq_true, beq_false, Bool.true_beq, Bool.false_beq, BEq.rfl, Int.reduceEq, Int.reduceLT, Int.reduceLE, Nat.reduceEqDiff, decide_true, decide_false, Bool.not_true, Bool.not_false, Bool.and_true, Bool.true_and, Bool.and_false, Bool.false_and, Bool.or_true, Bool.true_or, Bool.or_false, Bool.false_or, Bool.not_not, f1, f2, f3, f4, f5, f6, f7, f8, f9]
    refine G.joini0 ?_
    try simp (maxSteps := 2000000) only [↓RG, RP, true_and, and_true, beq_true, beq_false, Bool.true_beq, Bool.false_beq, BEq.rfl, Int.reduceEq, Int.reduceLT, Int.reduceLE, Nat.reduceEqDiff, decide_true, decide_false, Bool.not_true, Bool.not_false, Bool.and_true, Bool.true_and, Bool.and_false, Bool.false_and, Bool.or_true, Bool.true_or, Bool.or_false, Bool.false_or, Bool.not_not, f1, f2, f3, f4, f5, f6, f7, f8, f9]
    refine G.joini1 ?_
    try simp (maxSteps := 2000000) only [↓RG, RP, true_and, and_true, beq_true, beq_false, Bool.true_beq, Bool.false_beq, BEq.rfl, Int.reduceEq, Int.reduceLT, Int.reduceLE, Nat.reduceEqDiff, decide_true, decide_false, Bool.not_true, Bool.not_false, Bool.and_true, Bool.true_and, Bool.and_false, Bool.false_and, Bool.or_true, Bool.true_or, Bool.or_false, Bool.false_or, Bool.not_not, f1, f2, f3, f4, f5, f6, f7, f8, f9]
    refine G.joini0 ?_
    try simp (maxSteps := 2000000) only [↓RG, RP, true_and, and_true, beq_true, beq_false, Bool.true_beq, Bool.false_beq, BEq.rfl, Int.reduceEq, Int.reduceLT, Int.reduceLE, Nat.reduceEqDiff, decide_true, decide_false, Bool.not_true, Bool.not_false, Bool.and_true, Bool.true_and, Bool.and_false, Bool.false_and, Bool.or_true, Bool.true_or, Bool.or_false, Bool.false_or, Bool.not_not, f1, f2, f3, f4, f5, f6, f7, f8, f9]
    have hs : memStep m o = (m, errAns 1) := by
      have g : ∀ n : Int, 1 ≤ n → n ≤ 9 → ¬ o.kind = n := fun n h h2 => by omega
      unfold memStep
      simp [g]
    rw [hs] at hK
    simp only [errAns, Int.reduceEq, if_false] at hK
    refine G.joini0 ?_
    try simp (maxSteps := 2000000) only [↓RG, RP, true_and, and_true, beq_true, beq_false, Bool.true_beq, Bool.false_beq, BEq.rfl, Int.reduceEq, Int.reduceLT, Int.reduceLE, Nat.reduceEqDiff, decide_true, decide_false, Bool.not_true, Bool.not_false, Bool.and_true, Bool.true_and, Bool.and_false, Bool.false_and, Bool.or_true, Bool.true_or, Bool.or_false, Bool.false_or, Bool.not_not]
    exact hK.sub

theorem memDo_ans : (memDo m o).2 = (memStep m o).2 := by unfold memDo; split <;> rfl
theorem memDo_l : (memDo m o).1.l = (memStep m o).1.l := by unfold memDo; split <;> rfl
theorem memDo_load {i x y : Int} {u v : TLock} : (memDo m ⟨3, i, x, y, u, v⟩).2 = ⟨0, (loadRes m.l i).1, false, (loadRes m.l i).2⟩ ∧ (memDo m ⟨3, i, x, y, u, v⟩).1.l = m.l := by
  rw [memDo_ans, memDo_l]; simp [memStep]
theorem memDo_cas {i x y : Int} {u v : TLock} : (memDo m ⟨4, i, x, y, u, v⟩).2 = ⟨0, zeroLock, (casRes m.l i u v).2.1, (casRes m.l i u v).2.2⟩ ∧ (memDo m ⟨4, i, x, y, u, v⟩).1.l = (casRes m.l i u v).1 := by
  rw [memDo_ans, memDo_l]; simp [memStep]
theorem memDo_store {i x y : Int} {u v : TLock} : (memDo m ⟨5, i, x, y, u, v⟩).2 = ⟨0, zeroLock, false, (storeRes m.l i v).2⟩ ∧ (memDo m ⟨5, i, x, y, u, v⟩).1.l = (storeRes m.l i v).1 := by
  rw [memDo_ans, memDo_l]; simp [memStep]

theorem s_ref1_Mem_Do' {kd pl ol wd v1 o1 v2 o2 : Int} {h1 h2 : Bool} (hl : m.w.length ≤ 1000000) [i : SelOb L RMemR b m C]
    (hK : G w0 (C (ob RMemR b (memDo m ⟨kd, pl, ol, wd, ⟨v1, h1, o1⟩, ⟨v2, h2, o2⟩⟩).1)) (K (.agg (TAns.cells (memDo m ⟨kd, pl, ol, wd, ⟨v1, h1, o1⟩, ⟨v2, h2, o2⟩⟩).2).toArray))) :
    G w0 L (CP Try.prog Fn.ref1_Mem_Do [ptr b 0, .agg #[i64 kd, i64 pl, u64 ol, u64 wd, u64 v1, .bool h1, i64 o1, u64 v2, .bool h2, i64 o2]] K) :=
  s_ref1_Mem_Do (o := ⟨kd, pl, ol, wd, ⟨v1, h1, o1⟩, ⟨v2, h2, o2⟩⟩) hl hK

theorem s_ref1_Shape {s : TShape} (hK : G w0 L (K (.agg (TShape.cells (heldShape s)).toArray))) : G w0 L (CP Try.prog Fn.ref1_Shape [.agg (TShape.cells s).toArray] K) := by
  refine C_ref1_Shape ?_
  unfold S_ref1_Shape
  refine G.box fun p => ?_
  refine G.new fun q => ?_
  try simp (maxSteps := 2000000) only [↓RG, RP, true_and, and_true, beq_true, beq_false, Bool.true_beq, Bool.false_beq, BEq.rfl, Int.reduceEq, Int.reduceLT, Int.reduceLE, Nat.reduceEqDiff, decide_true, decide_false, Bool.not_true, Bool.not_false, Bool.and_true, Bool.true_and, Bool.and_false, Bool.false_and, Bool.or_true, Bool.true_or, Bool.or_false, Bool.false_or, Bool.not_not]
  refine s_ref1_Held ?_
  try simp (maxSteps := 2000000) only [↓RG, RP, true_and, and_true, beq_true, beq_false, Bool.true_beq, Bool.false_beq, BEq.rfl, Int.reduceEq, Int.reduceLT, Int.reduceLE, Nat.reduceEqDiff, decide_true, decide_false, Bool.not_true, Bool.not_false, Bool.and_true, Bool.true_and, Bool.and_false, Bool.false_and, Bool.or_true, Bool.true_or, Bool.or_false, Bool.false_or, Bool.not_not]
  refine s_ref1_Held ?_
  try simp (maxSteps := 2000000) only [↓RG, RP, true_and, and_true, beq_true, beq_false, Bool.true_beq, Bool.false_beq, BEq.rfl, Int.reduceEq, Int.reduceLT, Int.reduceLE, Nat.reduceEqDiff, decide_true, decide_false, Bool.not_true, Bool.not_false, Bool.and_true, Bool.true_and, Bool.and_false, Bool.false_and, Bool.or_true, Bool.true_or, Bool.or_false, Bool.false_or, Bool.not_not]
  refine s_ref1_Held ?_
  try simp (maxSteps := 2000000) only [↓RG, RP, true_and, and_true, beq_true, beq_false, Bool.true_beq, Bool.false_beq, BEq.rfl, Int.reduceEq, Int.reduceLT, Int.reduceLE, Nat.reduceEqDiff, decide_true, decide_false, Bool.not_true, Bool.not_false, Bool.and_true, Bool.true_and, Bool.and_false, Bool.false_and, Bool.or_true, Bool.true_or, Bool.or_false, Bool.false_or, Bool.not_not]
  refine s_ref1_Held ?_
  try simp (maxSteps := 2000000) only [↓RG, RP, true_and, and_true, beq_true, beq_false, Bool.true_beq, Bool.false_beq, BEq.rfl, Int.reduceEq, Int.reduceLT, Int.reduceLE, Nat.reduceEqDiff, decide_true, decide_false, Bool.not_true, Bool.not_false, Bool.and_true, Bool.true_and, Bool.and_false, Bool.false_and, Bool.or_true, Bool.true_or, Bool.or_false, Bool.false_or, Bool.not_not]
  refine G.joini0 ?_
  by_cases h : 4611686018427387904 ≤ s.start
  · have e : heldShape s = ⟨held s.words 32 256, held s.stripes 1 16, held s.wide 1 16, held s.threads 1 4, 4611686018427387903⟩ := by unfold heldShape; rw [if_pos h]
    rw [e] at hK
    have d : decide (s.start ≥ 4611686018427387904) = true := decide_eq_true h
    try simp (maxSteps := 2000000) only [↓RG, RP, true_and, and_true, beq_true, beq_false, Bool.true_beq, Bool.false_beq, BEq.rfl, Int.reduceEq, Int.reduceLT, Int.reduceLE, Nat.reduceEqDiff, decide_true, decide_false, Bool.not_true, Bool.not_false, Bool.and_true, Bool.true_and, Bool.and_false, Bool.false_and, Bool.or_true, Bool.true_or, Bool.or_false, Bool.false_or, Bool.not_not, d]
    exact hK.sub
  · have e : heldShape s = ⟨held s.words 32 256, held s.stripes 1 16, held s.wide 1 16, held s.threads 1 4, s.start⟩ := by unfold heldShape; rw [if_neg h]
    rw [e] at hK
    have d : decide (s.start ≥ 4611686018427387904) = false := decide_eq_false (by omega)
    try simp (maxSteps := 2000000) only [↓RG, RP, true_and, and_true, beq_true, beq_false, Bool.true_beq, Bool.false_beq, BEq.rfl, Int.reduceEq, Int.reduceLT, Int.reduceLE, Nat.reduceEqDiff, decide_true, decide_false, Bool.not_true, Bool.not_false, Bool.and_true, Bool.true_and, Bool.and_false, Bool.false_and, Bool.or_true, Bool.true_or, Bool.or_false, Bool.false_or, Bool.not_not, d]
    exact hK.sub

theorem s_ref1_NewMem {s : TShape} (hK : ∀ b, G w0 (ob RMemR b (newMem s) :: L) (K (ptr b 0))) : G w0 L (CP Try.prog Fn.ref1_NewMem [.agg (TShape.cells s).toArray] K) := by
  have l1 := held_le (n := s.words) (show (32 : Int) ≤ 256 by omega)
  have l2 := held_le (n := s.stripes) (show (1 : Int) ≤ 16 by omega)
  have l3 := held_le (n := s.wide) (show (1 : Int) ≤ 16 by omega)
  have l4 := held_le (n := s.threads) (show (1 : Int) ≤ 4 by omega)
  obtain ⟨n1, e1⟩ : ∃ n : Nat, held s.words 32 256 = n := ⟨_, (Int.toNat_of_nonneg (by omega)).symm⟩
  obtain ⟨n2, e2⟩ : ∃ n : Nat, held s.stripes 1 16 = n := ⟨_, (Int.toNat_of_nonneg (by omega)).symm⟩
  obtain ⟨n4, e4⟩ : ∃ n : Nat, held s.threads 1 4 = n := ⟨_, (Int.toNat_of_nonneg (by omega)).symm⟩
  obtain ⟨st, es⟩ : ∃ st, (if 4611686018427387904 ≤ s.start then (4611686018427387903 : Int) else s.start) = st := ⟨_, rfl⟩
  have hs : heldShape s = ⟨n1, n2, held s.wide 1 16, n4, st⟩ := by unfold heldShape; rw [e1, e2, e4, es]
  have hm : newMem s = ⟨⟨n1, n2, held s.wide 1 16, n4, st⟩, List.replicate n1 0, List.replicate n2 zeroLock, st, List.replicate n4 0, 0⟩ := by
    unfold newMem; rw [hs, e1, e2, e4]; rfl
  rw [e1] at l1
  rw [e2] at l2
  rw [e4] at l4
  rw [hm] at hK
  refine C_ref1_NewMem ?_
  unfold S_ref1_NewMem
  try simp (maxSteps := 2000000) only [fuse_and, fuse_or, fuse_step, fuse_pair, fuse_in, andP_true]
  refine G.box fun p => ?_
  try simp (maxSteps := 2000000) only [↓RG, RP, true_and, and_true, beq_true, beq_false, Bool.true_beq, Bool.false_beq, BEq.rfl, Int.reduceEq, Int.reduceLT, Int.reduceLE, Nat.reduceEqDiff, decide_true, decide_false, Bool.not_true, Bool.not_false, Bool.and_true, Bool.true_and, Bool.and_false, Bool.false_and, Bool.or_true, Bool.true_or, Bool.or_false, Bool.false_or, Bool.not_not]
  refine s_ref1_Shape ?_
  rw [hs]
  refine G.new fun q => ?_
  try simp (maxSteps := 2000000) only [↓RG, RP, true_and, and_true, beq_true, beq_false, Bool.true_beq, Bool.false_beq, BEq.rfl, Int.reduceEq, Int.reduceLT, Int.reduceLE, Nat.reduceEqDiff, decide_true, decide_false, Bool.not_true, Bool.not_false, Bool.and_true, Bool.true_and, Bool.and_false, Bool.false_and, Bool.or_true, Bool.true_or, Bool.or_false, Bool.false_or, Bool.not_not]
  refine G.drew ?_
  try simp (maxSteps := 2000000) only [↓RG, RP, true_and, and_true, beq_true, beq_false, Bool.true_beq, Bool.false_beq, BEq.rfl, Int.reduceEq, Int.reduceLT, Int.reduceLE, Nat.reduceEqDiff, decide_true, decide_false, Bool.not_true, Bool.not_false, Bool.and_true, Bool.true_and, Bool.and_false, Bool.false_and, Bool.or_true, Bool.true_or, Bool.or_false, Bool.false_or, Bool.not_not]
  refine ⟨?_, ?_, ?_⟩
  · refine G.make wordE 0 rfl (by simp only [maxLen]; omega) (by omega) fun vw h1 => ?_
    try simp (maxSteps := 2000000) only [↓RG, RP, true_and, and_true, beq_true, beq_false, Bool.true_beq, Bool.false_beq, BEq.rfl, Int.reduceEq, Int.reduceLT, Int.reduceLE, Nat.reduceEqDiff, decide_true, decide_false, Bool.not_true, Bool.not_false, Bool.and_true, Bool.true_and, Bool.and_false, Bool.false_and, Bool.or_true, Bool.true_or, Bool.or_false, Bool.false_or, Bool.not_not]
    refine ⟨?_, ?_⟩
    · refine G.make tLockE zeroLock rfl (by simp only [maxLen]; omega) (by omega) fun vl h2 => ?_
      try simp (maxSteps := 2000000) only [↓RG, RP, true_and, and_true, beq_true, beq_false, Bool.true_beq, Bool.false_beq, BEq.rfl, Int.reduceEq, Int.reduceLT, Int.reduceLE, Nat.reduceEqDiff, decide_true, decide_false, Bool.not_true, Bool.not_false, Bool.and_true, Bool.true_and, Bool.and_false, Bool.false_and, Bool.or_true, Bool.true_or, Bool.or_false, Bool.false_or, Bool.not_not]
      refine G.make wordE 0 rfl (by simp only [maxLen]; omega) (by omega) fun vs h3 => ?_
      try simp (maxSteps := 2000000) only [↓RG, RP, true_and, and_true, beq_true, beq_false, Bool.true_beq, Bool.false_beq, BEq.rfl, Int.reduceEq, Int.reduceLT, Int.reduceLE, Nat.reduceEqDiff, decide_true, decide_false, Bool.not_true, Bool.not_false, Bool.and_true, Bool.true_and, Bool.and_false, Bool.false_and, Bool.or_true, Bool.true_or, Bool.or_false, Bool.false_or, Bool.not_not]
      refine G.box fun b => ?_
      try simp (maxSteps := 2000000) only [↓RG, RP, true_and, and_true, beq_true, beq_false, Bool.true_beq, Bool.false_beq, BEq.rfl, Int.reduceEq, Int.reduceLT, Int.reduceLE, Nat.reduceEqDiff, decide_true, decide_false, Bool.not_true, Bool.not_false, Bool.and_true, Bool.true_and, Bool.and_false, Bool.false_and, Bool.or_true, Bool.true_or, Bool.or_false, Bool.false_or, Bool.not_not]
      have h := hK b
      rw [RMemR_open] at h
      exact (h vw vl vs ⟨h1, h2, h3⟩).sub
    · refine G.make wordE 0 rfl (by simp only [maxLen]; omega) (by omega) fun vs h3 => ?_
      try simp (maxSteps := 2000000) only [↓RG, RP, true_and, and_true, beq_true, beq_false, Bool.true_beq, Bool.false_beq, BEq.rfl, Int.reduceEq, Int.reduceLT, Int.reduceLE, Nat.reduceEqDiff, decide_true, decide_false, Bool.not_true, Bool.not_false, Bool.and_true, Bool.true_and, Bool.and_false, Bool.false_and, Bool.or_true, Bool.true_or, Bool.or_false, Bool.false_or, Bool.not_not]
      refine G.make tLockE zeroLock rfl (by simp only [maxLen]; omega) (by omega) fun vl h2 => ?_
      try simp (maxSteps := 2000000) only [↓RG, RP, true_and, and_true, beq_true, beq_false, Bool.true_beq, Bool.false_beq, BEq.rfl, Int.reduceEq, Int.reduceLT, Int.reduceLE, Nat.reduceEqDiff, decide_true, decide_false, Bool.not_true, Bool.not_false, Bool.and_true, Bool.true_and, Bool.and_false, Bool.false_and, Bool.or_true, Bool.true_or, Bool.or_false, Bool.false_or, Bool.not_not]
      refine G.box fun b => ?_
      try simp (maxSteps := 2000000) only [↓RG, RP, true_and, and_true, beq_true, beq_false, Bool.true_beq, Bool.false_beq, BEq.rfl, Int.reduceEq, Int.reduceLT, Int.reduceLE, Nat.reduceEqDiff, decide_true, decide_false, Bool.not_true, Bool.not_false, Bool.and_true, Bool.true_and, Bool.and_false, Bool.false_and, Bool.or_true, Bool.true_or, Bool.or_false, Bool.false_or, Bool.not_not]
      have h := hK b
      rw [RMemR_open] at h
      exact (h vw vl vs ⟨h1, h2, h3⟩).sub
  · refine G.make tLockE zeroLock rfl (by simp only [maxLen]; omega) (by omega) fun vl h2 => ?_
    try simp (maxSteps := 2000000) only [↓RG, RP, true_and, and_true, beq_true, beq_false, Bool.true_beq, Bool.false_beq, BEq.rfl, Int.reduceEq, Int.reduceLT, Int.reduceLE, Nat.reduceEqDiff, decide_true, decide_false, Bool.not_true, Bool.not_false, Bool.and_true, Bool.true_and, Bool.and_false, Bool.false_and, Bool.or_true, Bool.true_or, Bool.or_false, Bool.false_or, Bool.not_not]
    refine ⟨?_, ?_⟩
    · refine G.make wordE 0 rfl (by simp only [maxLen]; omega) (by omega) fun vw h1 => ?_
      try simp (maxSteps := 2000000) only [↓RG, RP, true_and, and_true, beq_true, beq_false, Bool.true_beq, Bool.false_beq, BEq.rfl, Int.reduceEq, Int.reduceLT, Int.reduceLE, Nat.reduceEqDiff, decide_true, decide_false, Bool.not_true, Bool.not_false, Bool.and_true, Bool.true_and, Bool.and_false, Bool.false_and, Bool.or_true, Bool.true_or, Bool.or_false, Bool.false_or, Bool.not_not]
      refine G.make wordE 0 rfl (by simp only [maxLen]; omega) (by omega) fun vs h3 => ?_
      try simp (maxSteps := 2000000) only [↓RG, RP, true_and, and_true, beq_true, beq_false, Bool.true_beq, Bool.false_beq, BEq.rfl, Int.reduceEq, Int.reduceLT, Int.reduceLE, Nat.reduceEqDiff, decide_true, decide_false, Bool.not_true, Bool.not_false, Bool.and_true, Bool.true_and, Bool.and_false, Bool.false_and, Bool.or_true, Bool.true_or, Bool.or_false, Bool.false_or, Bool.not_not]
      refine G.box fun b => ?_
      try simp (maxSteps := 2000000) only [↓RG, RP, true_and, and_true, beq_true, beq_false, Bool.true_beq, Bool.false_beq, BEq.rfl, Int.reduceEq, Int.reduceLT, Int.reduceLE, Nat.reduceEqDiff, decide_true, decide_false, Bool.not_true, Bool.not_false, Bool.and_true, Bool.true_and, Bool.and_false, Bool.false_and, Bool.or_true, Bool.true_or, Bool.or_false, Bool.false_or, Bool.not_not]
      have h := hK b
      rw [RMemR_open] at h
      exact (h vw vl vs ⟨h1, h2, h3⟩).sub
    · refine G.make wordE 0 rfl (by simp only [maxLen]; omega) (by omega) fun vs h3 => ?_
      try simp (maxSteps := 2000000) only [↓RG, RP, true_and, and_true, beq_true, beq_false, Bool.true_beq, Bool.false_beq, BEq.rfl, Int.reduceEq, Int.reduceLT, Int.reduceLE, Nat.reduceEqDiff, decide_true, decide_false, Bool.not_true, Bool.not_false, Bool.and_true, Bool.true_and, Bool.and_false, Bool.false_and, Bool.or_true, Bool.true_or, Bool.or_false, Bool.false_or, Bool.not_not]
      refine G.make wordE 0 rfl (by simp only [maxLen]; omega) (by omega) fun vw h1 => ?_
      try simp (maxSteps := 2000000) only [↓RG, RP, true_and, and_true, beq_true, beq_false, Bool.true_beq, Bool.false_beq, BEq.rfl, Int.reduceEq, Int.reduceLT, Int.reduceLE, Nat.reduceEqDiff, decide_true, decide_false, Bool.not_true, Bool.not_false, Bool.and_true, Bool.true_and, Bool.and_false, Bool.false_and, Bool.or_true, Bool.true_or, Bool.or_false, Bool.false_or, Bool.not_not]
      refine G.box fun b => ?_
      try simp (maxSteps := 2000000) only [↓RG, RP, true_and, and_true, beq_true, beq_false, Bool.true_beq, Bool.false_beq, BEq.rfl, Int.reduceEq, Int.reduceLT, Int.reduceLE, Nat.reduceEqDiff, decide_true, decide_false, Bool.not_true, Bool.not_false, Bool.and_true, Bool.true_and, Bool.and_false, Bool.false_and, Bool.or_true, Bool.true_or, Bool.or_false, Bool.false_or, Bool.not_not]
      have h := hK b
      rw [RMemR_open] at h
      exact (h vw vl vs ⟨h1, h2, h3⟩).sub
  · refine G.make wordE 0 rfl (by simp only [maxLen]; omega) (by omega) fun vs h3 => ?_
    try simp (maxSteps := 2000000) only [↓RG, RP, true_and, and_true, beq_true, beq_false, Bool.true_beq, Bool.false_beq, BEq.rfl, Int.reduceEq, Int.reduceLT, Int.reduceLE, Nat.reduceEqDiff, decide_true, decide_false, Bool.not_true, Bool.not_false, Bool.and_true, Bool.true_and, Bool.and_false, Bool.false_and, Bool.or_true, Bool.true_or, Bool.or_false, Bool.false_or, Bool.not_not]
    refine ⟨?_, ?_⟩
    · refine G.make wordE 0 rfl (by simp only [maxLen]; omega) (by omega) fun vw h1 => ?_
      try simp (maxSteps := 2000000) only [↓RG, RP, true_and, and_true, beq_true, beq_false, Bool.true_beq, Bool.false_beq, BEq.rfl, Int.reduceEq, Int.reduceLT, Int.reduceLE, Nat.reduceEqDiff, decide_true, decide_false, Bool.not_true, Bool.not_false, Bool.and_true, Bool.true_and, Bool.and_false, Bool.false_and, Bool.or_true, Bool.true_or, Bool.or_false, Bool.false_or, Bool.not_not]
      refine G.make tLockE zeroLock rfl (by simp only [maxLen]; omega) (by omega) fun vl h2 => ?_
      try simp (maxSteps := 2000000) only [↓RG, RP, true_and, and_true, beq_true, beq_false, Bool.true_beq, Bool.false_beq, BEq.rfl, Int.reduceEq, Int.reduceLT, Int.reduceLE, Nat.reduceEqDiff, decide_true, decide_false, Bool.not_true, Bool.not_false, Bool.and_true, Bool.true_and, Bool.and_false, Bool.false_and, Bool.or_true, Bool.true_or, Bool.or_false, Bool.false_or, Bool.not_not]
      refine G.box fun b => ?_
      try simp (maxSteps := 2000000) only [↓RG, RP, true_and, and_true, beq_true, beq_false, Bool.true_beq, Bool.false_beq, BEq.rfl, Int.reduceEq, Int.reduceLT, Int.reduceLE, Nat.reduceEqDiff, decide_true, decide_false, Bool.not_true, Bool.not_false, Bool.and_true, Bool.true_and, Bool.and_false, Bool.false_and, Bool.or_true, Bool.true_or, Bool.or_false, Bool.false_or, Bool.not_not]
      have h := hK b
      rw [RMemR_open] at h
      exact (h vw vl vs ⟨h1, h2, h3⟩).sub
    · refine G.make tLockE zeroLock rfl (by simp only [maxLen]; omega) (by omega) fun vl h2 => ?_
      try simp (maxSteps := 2000000) only [↓RG, RP, true_and, and_true, beq_true, beq_false, Bool.true_beq, Bool.false_beq, BEq.rfl, Int.reduceEq, Int.reduceLT, Int.reduceLE, Nat.reduceEqDiff, decide_true, decide_false, Bool.not_true, Bool.not_false, Bool.and_true, Bool.true_and, Bool.and_false, Bool.false_and, Bool.or_true, Bool.true_or, Bool.or_false, Bool.false_or, Bool.not_not]
      refine G.make wordE 0 rfl (by simp only [maxLen]; omega) (by omega) fun vw h1 => ?_
      try simp (maxSteps := 2000000) only [↓RG, RP, true_and, and_true, beq_true, beq_false, Bool.true_beq, Bool.false_beq, BEq.rfl, Int.reduceEq, Int.reduceLT, Int.reduceLE, Nat.reduceEqDiff, decide_true, decide_false, Bool.not_true, Bool.not_false, Bool.and_true, Bool.true_and, Bool.and_false, Bool.false_and, Bool.or_true, Bool.true_or, Bool.or_false, Bool.false_or, Bool.not_not]
      refine G.box fun b => ?_
      try simp (maxSteps := 2000000) only [↓RG, RP, true_and, and_true, beq_true, beq_false, Bool.true_beq, Bool.false_beq, BEq.rfl, Int.reduceEq, Int.reduceLT, Int.reduceLE, Nat.reduceEqDiff, decide_true, decide_false, Bool.not_true, Bool.not_false, Bool.and_true, Bool.true_and, Bool.and_false, Bool.false_and, Bool.or_true, Bool.true_or, Bool.or_false, Bool.false_or, Bool.not_not]
      have h := hK b
      rw [RMemR_open] at h
      exact (h vw vl vs ⟨h1, h2, h3⟩).sub

theorem s_ref1_Mem_Copy (hl : m.w.length ≤ 1000000 ∧ m.l.length ≤ 1000000 ∧ m.s.length ≤ 1000000) [i : SelOb L RMemR b m C] (hK : ∀ c, G w0 (ob RMemR c m :: L) (K (ptr c 0))) : G w0 L (CP Try.prog Fn.ref1_Mem_Copy [ptr b 0] K) := by
  obtain ⟨hl1, hl2, hl3⟩ := hl
  refine i.roN (P := fun _ => True) (N := fun c => ob RMemR c m) (F' := fun c => K (ptr c 0)) (fun M hK => ?_) (fun c _ => hK c)
  refine C_ref1_Mem_Copy ?_
  unfold S_ref1_Mem_Copy
  try simp (maxSteps := 2000000) only [fuse_and, fuse_or, fuse_step, fuse_pair, fuse_in, andP_true]
  refine G.drew ?_
  rw [RMemR_open]
  intro vw vl vs ⟨h1, hv2, h3⟩
  try simp (maxSteps := 2000000) only [↓RG, RP, true_and, and_true, beq_true, beq_false, Bool.true_beq, Bool.false_beq, BEq.rfl, Int.reduceEq, Int.reduceLT, Int.reduceLE, Nat.reduceEqDiff, decide_true, decide_false, Bool.not_true, Bool.not_false, Bool.and_true, Bool.true_and, Bool.and_false, Bool.false_and, Bool.or_true, Bool.true_or, Bool.or_false, Bool.false_or, Bool.not_not]
  refine G.nilsl wordE ?_
  refine G.append (xs := []) (ys := m.w) (by simp; omega) (by simp [maxLen]; omega) fun uw hw => ?_
  simp only [List.nil_append]
  try simp (maxSteps := 2000000) only [↓RG, RP, true_and, and_true, beq_true, beq_false, Bool.true_beq, Bool.false_beq, BEq.rfl, Int.reduceEq, Int.reduceLT, Int.reduceLE, Nat.reduceEqDiff, decide_true, decide_false, Bool.not_true, Bool.not_false, Bool.and_true, Bool.true_and, Bool.and_false, Bool.false_and, Bool.or_true, Bool.true_or, Bool.or_false, Bool.false_or, Bool.not_not]
  refine G.nilsl tLockE ?_
  refine G.append (xs := []) (ys := m.l) (by simp; omega) (by simp [maxLen]; omega) fun ul hul => ?_
  simp only [List.nil_append]
  try simp (maxSteps := 2000000) only [↓RG, RP, true_and, and_true, beq_true, beq_false, Bool.true_beq, Bool.false_beq, BEq.rfl, Int.reduceEq, Int.reduceLT, Int.reduceLE, Nat.reduceEqDiff, decide_true, decide_false, Bool.not_true, Bool.not_false, Bool.and_true, Bool.true_and, Bool.and_false, Bool.false_and, Bool.or_true, Bool.true_or, Bool.or_false, Bool.false_or, Bool.not_not]
  refine G.nilsl wordE ?_
  refine G.append (xs := []) (ys := m.s) (by simp; omega) (by simp [maxLen]; omega) fun us hus => ?_
  simp only [List.nil_append]
  try simp (maxSteps := 2000000) only [↓RG, RP, true_and, and_true, beq_true, beq_false, Bool.true_beq, Bool.false_beq, BEq.rfl, Int.reduceEq, Int.reduceLT, Int.reduceLE, Nat.reduceEqDiff, decide_true, decide_false, Bool.not_true, Bool.not_false, Bool.and_true, Bool.true_and, Bool.and_false, Bool.false_and, Bool.or_true, Bool.true_or, Bool.or_false, Bool.false_or, Bool.not_not]
  refine G.box fun c => ?_
  try simp (maxSteps := 2000000) only [↓RG, RP, true_and, and_true, beq_true, beq_false, Bool.true_beq, Bool.false_beq, BEq.rfl, Int.reduceEq, Int.reduceLT, Int.reduceLE, Nat.reduceEqDiff, decide_true, decide_false, Bool.not_true, Bool.not_false, Bool.and_true, Bool.true_and, Bool.and_false, Bool.false_and, Bool.or_true, Bool.true_or, Bool.or_false, Bool.false_or, Bool.not_not]
  have h := hK c trivial
  rw [RMemR_open] at h
  have h := h uw ul us ⟨hw, hul, hus⟩
  have h2 : G w0 (ob RMemR b m :: own c [i64 m.shape.words, i64 m.shape.stripes, i64 m.shape.wide, i64 m.shape.threads, u64 m.shape.start, uw, ul, u64 m.n, us, i64 m.count] :: sl wordE uw m.w :: sl tLockE ul m.l :: sl wordE us m.s :: M) (K (ptr c 0)) := h.sub
  rw [RMemR_open] at h2
  exact (h2 vw vl vs ⟨h1, hv2, h3⟩).sub

end
end Go.Proofs.Ytkghefbdhljgiaa.S
