/-
  CHAPTER 6, THE MODEL: what a memory is, what one thing does to it; the document's memory (quietusref1) does so.
-/
import Derived.Test.YtoealglbimbbmaaGreatDoorStripe
import Derived.Test.YtoealglbimbbmaaGreatDoorHeap
import Derived.Test.YtoealglbimbbmaaGreatDoorEpoch
namespace Go.Proofs.YtoealglbimbbmaaGreatDoor.S
open Go Go.Proofs
set_option linter.unusedVariables false
set_option linter.unusedSimpArgs false

structure MemS where
  shape : TShape
  w : List Int
  l : List TLock
  n : Int
  s : List Int
  count : Int

def zeroAns : TAns := ⟨0, zeroLock, false, 0⟩
def errAns (e : Int) : TAns := ⟨0, zeroLock, false, e⟩

def memStep (m : MemS) (o : TOp) : MemS × TAns :=
  if o.kind = 1 then (if inHeap o.place m.w then (m, ⟨m.w.getD o.place.toNat 0, zeroLock, false, 0⟩) else (m, errAns 2))
  else if o.kind = 2 then (if inHeap o.place m.w then ({ m with w := m.w.set o.place.toNat o.word }, zeroAns) else (m, errAns 2))
  else if o.kind = 3 then (m, ⟨0, (loadRes m.l o.place).1, false, (loadRes m.l o.place).2⟩)
  else if o.kind = 4 then ({ m with l := (casRes m.l o.place o.was o.lock).1 }, ⟨0, zeroLock, (casRes m.l o.place o.was o.lock).2.1, (casRes m.l o.place o.was o.lock).2.2⟩)
  else if o.kind = 5 then ({ m with l := (storeRes m.l o.place o.lock).1 }, ⟨0, zeroLock, false, (storeRes m.l o.place o.lock).2⟩)
  else if o.kind = 6 then (m, ⟨m.n, zeroLock, false, 0⟩)
  else if o.kind = 7 then (if o.word ≤ o.old then (m, errAns 1) else if 4611686018427387904 ≤ o.word then (m, errAns 7) else if m.n = o.old then ({ m with n := o.word }, ⟨0, zeroLock, true, 0⟩) else (m, zeroAns))
  else if o.kind = 8 then (if inLen o.place m.s.length then (m, ⟨m.s.getD o.place.toNat 0, zeroLock, false, 0⟩) else (m, errAns 2))
  else if o.kind = 9 then (if inLen o.place m.s.length then ({ m with s := m.s.set o.place.toNat o.word }, zeroAns) else (m, errAns 2))
  else (m, errAns 1)

def memDo (m : MemS) (o : TOp) : MemS × TAns :=
  if (memStep m o).2.err = 0 then ({ (memStep m o).1 with count := IntKind.wrap .i64 ((memStep m o).1.count + 1) }, (memStep m o).2) else memStep m o

def heldShape (s : TShape) : TShape := ⟨held s.words 32 256, held s.stripes 1 16, held s.wide 1 16, held s.threads 1 4, if 4611686018427387904 ≤ s.start then 4611686018427387903 else s.start⟩
def newMem (s : TShape) : MemS := ⟨heldShape s, List.replicate (held s.words 32 256).toNat 0, List.replicate (held s.stripes 1 16).toNat zeroLock, (heldShape s).start, List.replicate (held s.threads 1 4).toNat 0, 0⟩

theorem casRes_length (ls : List TLock) (i : Int) (a b : TLock) : (casRes ls i a b).1.length = ls.length := by unfold casRes; split <;> (try split) <;> simp
theorem storeRes_length (ls : List TLock) (i : Int) (a : TLock) : (storeRes ls i a).1.length = ls.length := by unfold storeRes; split <;> simp

/-- the lengths stay -/
structure SameLen (m m' : MemS) : Prop where
  w : m'.w.length = m.w.length
  l : m'.l.length = m.l.length
  s : m'.s.length = m.s.length
  shape : m'.shape = m.shape
theorem SameLen.refl (m : MemS) : SameLen m m := ⟨rfl, rfl, rfl, rfl⟩
theorem SameLen.trans {a b c : MemS} (h : SameLen a b) (h' : SameLen b c) : SameLen a c := ⟨h'.w.trans h.w, h'.l.trans h.l, h'.s.trans h.s, h'.shape.trans h.shape⟩
theorem SameLen.ite {m : MemS} {c : Prop} [Decidable c] {a b : MemS × TAns} (h : SameLen m a.1) (h2 : SameLen m b.1) : SameLen m (if c then a else b).1 := by split <;> assumption
theorem memStep_len (m : MemS) (o : TOp) : SameLen m (memStep m o).1 := by
  unfold memStep
  repeat' apply SameLen.ite
  all_goals exact ⟨by simp, by simp [casRes_length, storeRes_length], by simp, rfl⟩
theorem memDo_len (m : MemS) (o : TOp) : SameLen m (memDo m o).1 := by
  have := memStep_len m o
  unfold memDo
  split
  · exact ⟨this.w, this.l, this.s, this.shape⟩
  · exact this

/-- the document's memory -/
def RMemR (b : Nat) (m : MemS) : Asn := exA fun vw => exA fun vl => exA fun vs => star (pureA (Cells vw [vw] ∧ Cells vl [vl] ∧ Cells vs [vs]))
  (star (star (star (own b [i64 m.shape.words, i64 m.shape.stripes, i64 m.shape.wide, i64 m.shape.threads, u64 m.shape.start, vw, vl, u64 m.n, vs, i64 m.count]) (sl wordE vw m.w)) (sl tLockE vl m.l)) (sl wordE vs m.s))

section
variable {w0 : Base} {L M : List Asn} {K : KV} {F : World → Prop} {C : Asn → List Asn} {b : Nat} {m : MemS} {o : TOp}

theorem RMemR_open : G w0 (ob RMemR b m :: M) F = ∀ vw vl vs, Cells vw [vw] ∧ Cells vl [vl] ∧ Cells vs [vs] →
    G w0 (own b [i64 m.shape.words, i64 m.shape.stripes, i64 m.shape.wide, i64 m.shape.threads, u64 m.shape.start, vw, vl, u64 m.n, vs, i64 m.count] :: sl wordE vw m.w :: sl tLockE vl m.l :: sl wordE vs m.s :: M) F := by
  rw [ob_eq, RMemR]
  simp only [G_ex, G_star, G_pure]

/-- what comes behind the step: it is counted, if it did well -/
theorem mem_tail {m1 : MemS} {a : TAns} {p q p2 : Nat} {z y : List Value} (hz : z.length = 6)
    (hK : G w0 (ob RMemR b (if a.err = 0 then { m1 with count := IntKind.wrap .i64 (m1.count + 1) } else m1) :: M) (K (.agg (TAns.cells a).toArray))) :
    G w0 (own p [u64 a.word, u64 a.lock.version, .bool a.lock.held, i64 a.lock.owner, .bool a.done, i64 a.err] :: own q z :: own p2 y :: ob RMemR b m1 :: M) (fun w =>
      joinW0 (fun w => loadNW 6 (ptr p 0) (fun x13 w => storeW 6 (ptr q 0) x13 (fun x w => loadNW 6 (ptr q 0) (fun x15 w => K x15 w) w) w) w)
        (fun j3 w => condP (.bool (decide (a.err = 0))) (fun w => load1W (ptr b 9) (fun x18 w => binIntW .add x18 (.int .i64 1) (fun x19 w => storeW 1 (ptr b 9) x19 (fun x w => j3 w) w) w) w) (fun w => j3 w) w) w) := by
  obtain ⟨wd, ⟨lv, lh, lo⟩, dn, er⟩ := a
  match z, hz with
  | [z0, z1, z2, z3, z4, z5], _ =>
  simp only [TAns.cells] at hK ⊢
  refine G.joini0 ?_
  by_cases he : er = 0
  · try simp (maxSteps := 2000000) only [↓RG, RP, RB, BEq.rfl, Int.reduceEq, Int.reduceLT, Int.reduceLE, Nat.reduceEqDiff, he]
    simp only [he, if_true] at hK
    rw [G_rot4, RMemR_open]
    intro vw vl vs hh
    try simp (maxSteps := 2000000) only [↓RG, RP, RB, BEq.rfl, Int.reduceEq, Int.reduceLT, Int.reduceLE, Nat.reduceEqDiff]
    rw [RMemR_open] at hK
    exact (hK vw vl vs hh).sub
  · try simp (maxSteps := 2000000) only [↓RG, RP, RB, BEq.rfl, Int.reduceEq, Int.reduceLT, Int.reduceLE, Nat.reduceEqDiff, he]
    simp only [he, if_false] at hK
    exact hK.sub

theorem memDo_ans : (memDo m o).2 = (memStep m o).2 := by unfold memDo; split <;> rfl
theorem memDo_l : (memDo m o).1.l = (memStep m o).1.l := by unfold memDo; split <;> rfl
theorem memDo_load {i x y : Int} {u v : TLock} : (memDo m ⟨3, i, x, y, u, v⟩).2 = ⟨0, (loadRes m.l i).1, false, (loadRes m.l i).2⟩ ∧ (memDo m ⟨3, i, x, y, u, v⟩).1.l = m.l := by
  rw [memDo_ans, memDo_l]; simp [memStep]
theorem memDo_cas {i x y : Int} {u v : TLock} : (memDo m ⟨4, i, x, y, u, v⟩).2 = ⟨0, zeroLock, (casRes m.l i u v).2.1, (casRes m.l i u v).2.2⟩ ∧ (memDo m ⟨4, i, x, y, u, v⟩).1.l = (casRes m.l i u v).1 := by
  rw [memDo_ans, memDo_l]; simp [memStep]
theorem memDo_store {i x y : Int} {u v : TLock} : (memDo m ⟨5, i, x, y, u, v⟩).2 = ⟨0, zeroLock, false, (storeRes m.l i v).2⟩ ∧ (memDo m ⟨5, i, x, y, u, v⟩).1.l = (storeRes m.l i v).1 := by
  rw [memDo_ans, memDo_l]; simp [memStep]

end
end Go.Proofs.YtoealglbimbbmaaGreatDoor.S
