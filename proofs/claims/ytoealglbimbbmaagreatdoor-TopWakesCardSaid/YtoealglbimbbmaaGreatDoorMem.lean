import Derived.Test.YtoealglbimbbmaaGreatDoorReads
namespace Go.Proofs.YtoealglbimbbmaaGreatDoor.S
open Go Go.Proofs
set_option linter.unusedVariables false
set_option linter.unusedSimpArgs false
def ClockR (b : Nat) (n : Int) : Asn := own b [u64 n]
def MemR (b : Nat) (m : MemS) : Asn := exA fun h => exA fun t => exA fun c => exA fun s => star (star (star (star (own b [i64 m.shape.words, i64 m.shape.stripes, i64 m.shape.wide, i64 m.shape.threads, u64 m.shape.start, ptr h 0, ptr t 0, ptr c 0, ptr s 0, i64 m.count])
 (ob WordsR h m.w)) (ob TableR t (m.l, m.shape.wide))) (ob ClockR c m.n)) (ob WordsR s m.s)
section
variable {w0 : Base} {L M : List Asn} {K : KV} {F : World → Prop} {C : Asn → List Asn} {b : Nat} {m : MemS} {o : TOp} {n : Int}
theorem ClockR_open : ob ClockR b n = own b [u64 n] := by rw [ob_eq, ClockR]
theorem MemR_open : G w0 (ob MemR b m :: M) F = ∀ h t c s, G w0 (own b [i64 m.shape.words, i64 m.shape.stripes, i64 m.shape.wide, i64 m.shape.threads, u64 m.shape.start, ptr h 0, ptr t 0, ptr c 0, ptr s 0, i64 m.count] ::
  ob WordsR h m.w :: ob TableR t (m.l, m.shape.wide) :: ob ClockR c m.n :: ob WordsR s m.s :: M) F := by
 rw [ob_eq, MemR]
 simp only [G_ex, G_star]
theorem s_clock_New (hK : ∀ b, G w0 (ob ClockR b (if 4611686018427387903 < n then 4611686018427387903 else n) :: L) (K (ptr b 0))) : G w0 L (CP Tryz.prog Fn.clock_New [u64 n] K) := by
 refine C_clock_New ?_
 unfold S_clock_New
 refine gr ?_
 refine G.box fun b => ?_
 have h := hK b
 rw [ClockR_open] at h
 exact h
theorem s_clock_Clock_Load [i : SelOb L ClockR b n C] (hK : G w0 L (K (u64 n))) : G w0 L (CP Tryz.prog Fn.clock_Clock_Load [ptr b 0] K) := by
 refine i.ro (fun M hK => ?_) hK
 rw [ClockR_open] at *
 refine C_clock_Clock_Load ?_
 unfold S_clock_Clock_Load
 refine gr ?_
 exact hK
def clockCas (n old now : Int) : Int × Bool × Int := if now ≤ old then (n, false, 1) else if 4611686018427387904 ≤ now then (n, false, 7) else if n = old then (now, true, 0) else (n, false, 0)
theorem s_clock_Clock_Cas {old now : Int} [i : SelOb L ClockR b n C] (hK : G w0 (C (ob ClockR b (clockCas n old now).1)) (K (.tuple #[.bool (clockCas n old now).2.1, i64 (clockCas n old now).2.2]))) : G w0 L (CP Tryz.prog Fn.clock_Clock_Cas [ptr b 0, u64 old, u64 now] K) := by
 refine i.use (fun M hK => ?_) hK
 rw [ClockR_open] at *
 refine C_clock_Clock_Cas ?_
 unfold S_clock_Clock_Cas
 unfold clockCas at hK
 by_cases c1 : now ≤ old
 ·rw [if_pos c1] at hK
  refine grf c1 ?_
  exact hK
 ·rw [if_neg c1] at hK
  by_cases c2 : 4611686018427387904 ≤ now
  ·rw [if_pos c2] at hK
   refine grf (an c1 c2) ?_
   exact hK
  ·rw [if_neg c2] at hK
   by_cases c3 : n = old
   ·rw [if_pos c3] at hK
    refine grf (an c1 (an c2 c3)) ?_
    exact hK
   ·rw [if_neg c3] at hK
    refine grf (an c1 (an c2 c3)) ?_
    exact hK
theorem memHeld_core {n lo hi : Int} (h : lo ≤ hi) : (if (if hi < n then hi else n) > lo then (if hi < n then hi else n) else lo) = held n lo hi := by
 unfold held; split <;> split <;> (try split) <;> (try split) <;> omega
theorem s_mem_Held {s : TShape} (hK : G w0 L (K (.agg (TShape.cells (heldShape s)).toArray))) : G w0 L (CP Tryz.prog Fn.mem_Held [.agg (TShape.cells s).toArray] K) := by
 refine C_mem_Held ?_
 unfold S_mem_Held
 refine G.box fun p => ?_
 refine G.new fun q => ?_
 refine gr ?_
 rw [memHeld_core (n := s.words) (by omega), memHeld_core (n := s.stripes) (by omega), memHeld_core (n := s.wide) (by omega), memHeld_core (n := s.threads) (by omega)]
 have e : (if (4611686018427387903 : Int) < s.start then 4611686018427387903 else s.start) = (if 4611686018427387904 ≤ s.start then 4611686018427387903 else s.start) := by split <;> split <;> omega
 rw [e]
 exact hK.sub
theorem held_held {n lo hi : Int} (h : lo ≤ hi) : held (held n lo hi) lo hi = held n lo hi := by
 have := held_le (n := n) h
 generalize held n lo hi = k at *
 unfold held; split <;> (try split) <;> omega
theorem s_mem_New {s : TShape} (hK : ∀ b, G w0 (ob MemR b (newMem s) :: L) (K (ptr b 0))) : G w0 L (CP Tryz.prog Fn.mem_New [.agg (TShape.cells s).toArray] K) := by
 refine C_mem_New ?_
 unfold S_mem_New
 refine G.box fun p => ?_
 refine gr ?_
 refine s_mem_Held ?_
 repeat' (first | (with_reducible refine G.joini0 ?_) | (with_reducible refine G.joini1 ?_) | (with_reducible refine G.drew ?_) | (simp (maxSteps := 2000000) only [↓RG, RP, RB, BEq.rfl, Int.reduceEq, Int.reduceLT, Int.reduceLE, Nat.reduceEqDiff]))
 refine s_heap_New fun h => ?_
 refine gr ?_
 refine s_stripe_New fun t => ?_
 refine gr ?_
 refine s_clock_New fun c => ?_
 refine gr ?_
 refine s_epoch_New fun e => ?_
 refine gr ?_
 refine G.box fun b => ?_
 refine gr ?_
 have hk := hK b
 rw [MemR_open] at hk
 have hk : G w0 (own b [i64 (held s.words 32 256), i64 (held s.stripes 1 16), i64 (held s.wide 1 16), i64 (held s.threads 1 4), u64 (heldShape s).start, ptr h 0, ptr t 0, ptr c 0, ptr e 0, i64 0] ::
  ob WordsR h (List.replicate (held s.words 32 256).toNat 0) :: ob TableR t (List.replicate (held s.stripes 1 16).toNat zeroLock, held s.wide 1 16) :: ob ClockR c (heldShape s).start :: ob WordsR e (List.replicate (held s.threads 1 4).toNat 0) :: L) (K (ptr b 0)) := hk h t c e
 have e1 : (heldShape s).words = held s.words 32 256 := rfl
 have e2 : (heldShape s).stripes = held s.stripes 1 16 := rfl
 have e3 : (heldShape s).wide = held s.wide 1 16 := rfl
 have e4 : (heldShape s).threads = held s.threads 1 4 := rfl
 have e6 : (heldShape s).start ≤ 4611686018427387903 := by unfold heldShape; simp only; split <;> omega
 have e5 : (if (4611686018427387903 : Int) < (heldShape s).start then 4611686018427387903 else (heldShape s).start) = (heldShape s).start := if_neg (by omega)
 rw [e1, e2, e3, e4, held_held (by omega), held_held (by omega), held_held (by omega), held_held (by omega), e5]
 exact hk.sub
theorem memStep_1 {m : MemS} {o : TOp} (k1 : o.kind = 1) : memStep m o = if inHeap o.place m.w then (m, ⟨m.w.getD o.place.toNat 0, zeroLock, false, 0⟩) else (m, errAns 2) := by unfold memStep; simp [k1]
theorem memStep_2 {m : MemS} {o : TOp} (k1 : o.kind = 2) : memStep m o = if inHeap o.place m.w then ({ m with w := m.w.set o.place.toNat o.word }, zeroAns) else (m, errAns 2) := by unfold memStep; simp [k1]
theorem memStep_3 {m : MemS} {o : TOp} (k1 : o.kind = 3) : memStep m o = (m, ⟨0, (loadRes m.l o.place).1, false, (loadRes m.l o.place).2⟩) := by unfold memStep; simp [k1]
theorem memStep_4 {m : MemS} {o : TOp} (k1 : o.kind = 4) : memStep m o = ({ m with l := (casRes m.l o.place o.was o.lock).1 }, ⟨0, zeroLock, (casRes m.l o.place o.was o.lock).2.1, (casRes m.l o.place o.was o.lock).2.2⟩) := by unfold memStep; simp [k1]
theorem memStep_5 {m : MemS} {o : TOp} (k1 : o.kind = 5) : memStep m o = ({ m with l := (storeRes m.l o.place o.lock).1 }, ⟨0, zeroLock, false, (storeRes m.l o.place o.lock).2⟩) := by unfold memStep; simp [k1]
theorem memStep_6 {m : MemS} {o : TOp} (k1 : o.kind = 6) : memStep m o = (m, ⟨m.n, zeroLock, false, 0⟩) := by unfold memStep; simp [k1]
theorem memStep_7 {m : MemS} {o : TOp} (k1 : o.kind = 7) : memStep m o = ({ m with n := (clockCas m.n o.old o.word).1 }, ⟨0, zeroLock, (clockCas m.n o.old o.word).2.1, (clockCas m.n o.old o.word).2.2⟩) := by
 unfold memStep clockCas; simp only [k1]; simp only [Int.reduceEq, if_true, if_false, Int.reduceNeg]
 split
 ·rfl
 ·split
  ·rfl
  ·split <;> rfl
theorem memStep_8 {m : MemS} {o : TOp} (k1 : o.kind = 8) : memStep m o = if inLen o.place m.s.length then (m, ⟨m.s.getD o.place.toNat 0, zeroLock, false, 0⟩) else (m, errAns 2) := by unfold memStep; simp [k1]
theorem memStep_9 {m : MemS} {o : TOp} (k1 : o.kind = 9) : memStep m o = if inLen o.place m.s.length then ({ m with s := m.s.set o.place.toNat o.word }, zeroAns) else (m, errAns 2) := by unfold memStep; simp [k1]
set_option maxRecDepth 20000 in
set_option maxHeartbeats 4000000 in
theorem s_mem_Mem_do [i : SelOb L MemR b m C] (hK : G w0 (C (ob MemR b (memStep m o).1)) (K (.agg (TAns.cells (memStep m o).2).toArray))) : G w0 L (CP Tryz.prog Fn.mem_Mem_do [ptr b 0, .agg (TOp.cells o).toArray] K) := by
 refine i.use (fun M hK => ?_) hK
 refine C_mem_Mem_do ?_
 unfold S_mem_Mem_do
 refine G.box fun p => ?_
 refine G.new fun q => ?_
 refine G.new fun r => ?_
 rw [G_rot4, MemR_open]
 intro h t c s
 refine gr ?_
 by_cases k1 : o.kind = 1
 ·rw [memStep_1 k1] at hK
  repeat' (first | (with_reducible refine G.joini0 ?_) | (with_reducible refine G.joini1 ?_) | (with_reducible refine G.drew ?_) | (simp (maxSteps := 2000000) only [↓RG, RP, RB, BEq.rfl, Int.reduceEq, Int.reduceLT, Int.reduceLE, Nat.reduceEqDiff, k1]))
  refine s_heap_Heap_Load (xs := m.w) (fun k hk h1 h2 => ?_) (fun h0 => ?_)
  ·rw [if_pos (show inHeap o.place m.w = true by unfold inHeap; simp; omega), MemR_open, hk] at hK
   simp only [Int.toNat_natCast] at hK
   refine gg ?_
   exact (hK h t c s).sub
  ·rw [if_neg (by rw [h0]; decide), MemR_open] at hK
   refine gg ?_
   exact (hK h t c s).sub
 by_cases k2 : o.kind = 2
 ·rw [memStep_2 k2] at hK
  repeat' (first | (with_reducible refine G.joini0 ?_) | (with_reducible refine G.joini1 ?_) | (with_reducible refine G.drew ?_) | (simp (maxSteps := 2000000) only [↓RG, RP, RB, BEq.rfl, Int.reduceEq, Int.reduceLT, Int.reduceLE, Nat.reduceEqDiff, k2]))
  refine s_heap_Heap_Store (xs := m.w) (fun k hk h1 h2 => ?_) (fun h0 => ?_)
  ·rw [if_pos (show inHeap o.place m.w = true by unfold inHeap; simp; omega), MemR_open, hk] at hK
   simp only [Int.toNat_natCast] at hK
   refine gg ?_
   exact (hK h t c s).sub
  ·rw [if_neg (by rw [h0]; decide), MemR_open] at hK
   refine gg ?_
   exact (hK h t c s).sub
 by_cases k3 : o.kind = 3
 ·rw [memStep_3 k3, MemR_open] at hK
  repeat' (first | (with_reducible refine G.joini0 ?_) | (with_reducible refine G.joini1 ?_) | (with_reducible refine G.drew ?_) | (simp (maxSteps := 2000000) only [↓RG, RP, RB, BEq.rfl, Int.reduceEq, Int.reduceLT, Int.reduceLE, Nat.reduceEqDiff, k3]))
  refine s_stripe_Table_Load (ls := m.l) ?_
  refine gg ?_
  exact (hK h t c s).sub
 by_cases k4 : o.kind = 4
 ·rw [memStep_4 k4, MemR_open] at hK
  repeat' (first | (with_reducible refine G.joini0 ?_) | (with_reducible refine G.joini1 ?_) | (with_reducible refine G.drew ?_) | (simp (maxSteps := 2000000) only [↓RG, RP, RB, BEq.rfl, Int.reduceEq, Int.reduceLT, Int.reduceLE, Nat.reduceEqDiff, k4]))
  refine s_stripe_Table_Cas (ls := m.l) ?_
  refine gg ?_
  exact (hK h t c s).sub
 by_cases k5 : o.kind = 5
 ·rw [memStep_5 k5, MemR_open] at hK
  repeat' (first | (with_reducible refine G.joini0 ?_) | (with_reducible refine G.joini1 ?_) | (with_reducible refine G.drew ?_) | (simp (maxSteps := 2000000) only [↓RG, RP, RB, BEq.rfl, Int.reduceEq, Int.reduceLT, Int.reduceLE, Nat.reduceEqDiff, k5]))
  refine s_stripe_Table_Store (ls := m.l) ?_
  refine gg ?_
  exact (hK h t c s).sub
 by_cases k6 : o.kind = 6
 ·rw [memStep_6 k6, MemR_open] at hK
  repeat' (first | (with_reducible refine G.joini0 ?_) | (with_reducible refine G.joini1 ?_) | (with_reducible refine G.drew ?_) | (simp (maxSteps := 2000000) only [↓RG, RP, RB, BEq.rfl, Int.reduceEq, Int.reduceLT, Int.reduceLE, Nat.reduceEqDiff, k6]))
  refine s_clock_Clock_Load (n := m.n) ?_
  refine gg ?_
  exact (hK h t c s).sub
 by_cases k7 : o.kind = 7
 ·rw [memStep_7 k7, MemR_open] at hK
  repeat' (first | (with_reducible refine G.joini0 ?_) | (with_reducible refine G.joini1 ?_) | (with_reducible refine G.drew ?_) | (simp (maxSteps := 2000000) only [↓RG, RP, RB, BEq.rfl, Int.reduceEq, Int.reduceLT, Int.reduceLE, Nat.reduceEqDiff, k7]))
  refine s_clock_Clock_Cas (n := m.n) ?_
  refine gg ?_
  exact (hK h t c s).sub
 by_cases k8 : o.kind = 8
 ·rw [memStep_8 k8] at hK
  repeat' (first | (with_reducible refine G.joini0 ?_) | (with_reducible refine G.joini1 ?_) | (with_reducible refine G.drew ?_) | (simp (maxSteps := 2000000) only [↓RG, RP, RB, BEq.rfl, Int.reduceEq, Int.reduceLT, Int.reduceLE, Nat.reduceEqDiff, k8]))
  refine s_epoch_Slots_Load (xs := m.s) (fun k hk h1 => ?_) (fun h0 => ?_)
  ·rw [if_pos (show inLen o.place m.s.length = true by unfold inLen; simp; omega), MemR_open, hk] at hK
   simp only [Int.toNat_natCast] at hK
   refine gg ?_
   exact (hK h t c s).sub
  ·rw [if_neg (by unfold inRow at h0; unfold inLen; rw [h0]; decide), MemR_open] at hK
   refine gg ?_
   exact (hK h t c s).sub
 by_cases k9 : o.kind = 9
 ·rw [memStep_9 k9] at hK
  repeat' (first | (with_reducible refine G.joini0 ?_) | (with_reducible refine G.joini1 ?_) | (with_reducible refine G.drew ?_) | (simp (maxSteps := 2000000) only [↓RG, RP, RB, BEq.rfl, Int.reduceEq, Int.reduceLT, Int.reduceLE, Nat.reduceEqDiff, k9]))
  refine s_epoch_Slots_Store (xs := m.s) (fun k hk h1 => ?_) (fun h0 => ?_)
  ·rw [if_pos (show inLen o.place m.s.length = true by unfold inLen; simp; omega), MemR_open, hk] at hK
   simp only [Int.toNat_natCast] at hK
   refine gg ?_
   exact (hK h t c s).sub
  ·rw [if_neg (by unfold inRow at h0; unfold inLen; rw [h0]; decide), MemR_open] at hK
   refine gg ?_
   exact (hK h t c s).sub
 ·have e : memStep m o = (m, errAns 1) := by unfold memStep; simp [k1, k2, k3, k4, k5, k6, k7, k8, k9]
  rw [e, MemR_open] at hK
  repeat' (first | (with_reducible refine G.joini0 ?_) | (with_reducible refine G.joini1 ?_) | (with_reducible refine G.drew ?_) | (simp (maxSteps := 2000000) only [↓RG, RP, RB, BEq.rfl, Int.reduceEq, Int.reduceLT, Int.reduceLE, Nat.reduceEqDiff, k1, k2, k3, k4, k5, k6, k7, k8, k9]))
  exact (hK h t c s).sub
theorem s_mem_Mem_Do [i : SelOb L MemR b m C] (hK : G w0 (C (ob MemR b (memDo m o).1)) (K (.agg (TAns.cells (memDo m o).2).toArray))) : G w0 L (CP Tryz.prog Fn.mem_Mem_Do [ptr b 0, .agg (TOp.cells o).toArray] K) := by
 refine i.use (fun M hK => ?_) hK
 refine C_mem_Mem_Do ?_
 unfold S_mem_Mem_Do
 refine G.box fun p => ?_
 refine G.new fun q => ?_
 refine gr ?_
 refine s_mem_Mem_do (m := m) (o := o) ?_
 refine G.new fun r => ?_
 refine gr ?_
 refine G.joini0 ?_
 unfold memDo at hK
 by_cases he : (memStep m o).2.err = 0
 ·rw [if_pos he, MemR_open] at hK
  refine grf he ?_
  rw [G_rot4, MemR_open]
  intro h t c s
  refine gr ?_
  have hK := hK h t c s
  simp only [TAns.cells, he] at hK
  exact hK.sub
 ·rw [if_neg he] at hK
  refine grf he ?_
  exact hK.sub
theorem s_mem_Mem_Words (hl : m.w.length ≤ 1000000) [i : SelOb L MemR b m C] (hK : ∀ u, Cells u [u] → G w0 (sl wordE u m.w :: L) (K u)) : G w0 L (CP Tryz.prog Fn.mem_Mem_Words [ptr b 0] K) := by
 refine i.roN (fun M hK => ?_) hK
 rw [MemR_open]
 intro h t c s
 refine C_mem_Mem_Words ?_
 unfold S_mem_Mem_Words
 refine gr ?_
 refine s_heap_Heap_All (xs := m.w) hl fun u hu => ?_
 refine gr ?_
 have hk := hK u hu
 rw [G_swap, MemR_open] at hk
 exact (hk h t c s).sub
end
end Go.Proofs.YtoealglbimbbmaaGreatDoor.S
