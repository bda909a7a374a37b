/-
  CHAPTER 2: contracts of package heap.
-/
import Derived.Test.YtoealglbimbbmaaGreatDoorBook
namespace Go.Proofs.YtoealglbimbbmaaGreatDoor.S
open Go Go.Proofs
set_option linter.unusedVariables false
set_option linter.unusedSimpArgs false

/-- is n a place of the heap? -/
def inHeap (n : Int) (xs : List Int) : Bool := decide (1 ≤ n) && decide (n < xs.length)
theorem inHeap_elim {n : Int} {xs : List Int} (h : inHeap n xs = true) : ∃ k : Nat, n = k ∧ 1 ≤ k ∧ k < xs.length := by
  simp [inHeap] at h
  exact ⟨n.toNat, by omega, by omega, by omega⟩

section
variable {w0 : Base} {L M : List Asn} {K : KV} {F : World → Prop} {C : Asn → List Asn} {b : Nat} {xs : List Int}

theorem s_heap_New {n : Int} (hK : ∀ b, G w0 (ob WordsR b (List.replicate (held n 32 256).toNat 0) :: L) (K (ptr b 0))) : G w0 L (CP Tryz.prog Fn.heap_New [i64 n] K) := by
  refine C_heap_New ?_
  unfold S_heap_New
  try simp (maxSteps := 2000000) only [↓RG, RP, RB, BEq.rfl, Int.reduceEq, Int.reduceLT, Int.reduceLE, Nat.reduceEqDiff]
  have e3 : (if (if (256 : Int) < n then (256 : Int) else n) > 32 then (if (256 : Int) < n then (256 : Int) else n) else 32) = ((held n 32 256).toNat : Int) := by
    unfold held; split <;> split <;> split <;> (try split) <;> omega
  have hb := held_le (n := n) (show (32 : Int) ≤ 256 by omega)
  rw [e3]
  refine G.make wordE 0 rfl (by simp only [maxLen]; omega) (by omega) fun v hv => ?_
  try simp (maxSteps := 2000000) only [↓RG, RP, RB, BEq.rfl, Int.reduceEq, Int.reduceLT, Int.reduceLE, Nat.reduceEqDiff]
  refine G.box fun b => ?_
  have := hK b
  rw [WordsR_open] at this
  exact this v hv

theorem s_heap_Heap_All [i : SelOb L WordsR b xs C] (hl : xs.length ≤ 1000000) (hK : ∀ u, Cells u [u] → G w0 (sl wordE u xs :: L) (K u)) : G w0 L (CP Tryz.prog Fn.heap_Heap_All [ptr b 0] K) := by
  refine i.roN (fun M hK => ?_) hK
  rw [WordsR_open]
  intro v hv
  refine C_heap_Heap_All ?_
  unfold S_heap_Heap_All
  try simp (maxSteps := 2000000) only [↓RG, RP, RB, BEq.rfl, Int.reduceEq, Int.reduceLT, Int.reduceLE, Nat.reduceEqDiff]
  refine s_slices_Clone_uint64_uint64 hl fun u hu => ?_
  have := hK u hu
  rw [G_swap, WordsR_open] at this
  exact G.sub (this v hv)

theorem s_heap_Heap_is {n : Int} [i : SelOb L WordsR b xs C] (hK : G w0 L (K (.bool (inHeap n xs)))) : G w0 L (CP Tryz.prog Fn.heap_Heap_is [ptr b 0, i64 n] K) := by
  refine i.ro (fun M hK => ?_) hK
  rw [WordsR_open] at *
  intro v hv
  refine C_heap_Heap_is ?_
  unfold S_heap_Heap_is
  try simp (maxSteps := 2000000) only [fuse_and, fuse_or, fuse_step, fuse_pair, fuse_in, andP_true]
  try simp (maxSteps := 2000000) only [↓RG, RP, RB, BEq.rfl, Int.reduceEq, Int.reduceLT, Int.reduceLE, Nat.reduceEqDiff]
  refine G.all (decide (n < xs.length)) (fun _ K hK => by try simp (maxSteps := 2000000) only [↓RG, RP, RB, BEq.rfl, Int.reduceEq, Int.reduceLT, Int.reduceLE, Nat.reduceEqDiff]; exact hK) ?_
  exact hK v hv

theorem s_heap_Heap_Load {n : Int} [i : SelOb L WordsR b xs C] (h1 : ∀ k : Nat, n = k → 1 ≤ k → k < xs.length → G w0 L (K (.tuple #[u64 (xs.getD k 0), i64 0]))) (h0 : inHeap n xs = false → G w0 L (K (.tuple #[u64 0, i64 2]))) :
    G w0 L (CP Tryz.prog Fn.heap_Heap_Load [ptr b 0, i64 n] K) := by
  refine C_heap_Heap_Load ?_
  unfold S_heap_Heap_Load
  refine s_heap_Heap_is ?_
  try simp (maxSteps := 2000000) only [↓RG, RP, RB, BEq.rfl, Int.reduceEq, Int.reduceLT, Int.reduceLE, Nat.reduceEqDiff]
  refine G.cond (fun h => ?_) (fun h => ?_)
  · exact h0 (by simpa using h)
  · obtain ⟨k, rfl, hk1, hk⟩ := inHeap_elim (by simpa using h)
    refine i.ro (fun M hK => ?_) (h1 k rfl hk1 hk)
    rw [WordsR_open] at *
    intro v hv
    have e := elem_of hk
    try simp (maxSteps := 2000000) only [↓RG, RP, RB, BEq.rfl, Int.reduceEq, Int.reduceLT, Int.reduceLE, Nat.reduceEqDiff]
    have := hK v hv
    simpa [hk] using this

theorem s_heap_Heap_Store {n x : Int} [i : SelOb L WordsR b xs C] (h1 : ∀ k : Nat, n = k → 1 ≤ k → k < xs.length → G w0 (C (ob WordsR b (xs.set k x))) (K (i64 0))) (h0 : inHeap n xs = false → G w0 L (K (i64 2))) :
    G w0 L (CP Tryz.prog Fn.heap_Heap_Store [ptr b 0, i64 n, u64 x] K) := by
  refine C_heap_Heap_Store ?_
  unfold S_heap_Heap_Store
  refine s_heap_Heap_is ?_
  try simp (maxSteps := 2000000) only [↓RG, RP, RB, BEq.rfl, Int.reduceEq, Int.reduceLT, Int.reduceLE, Nat.reduceEqDiff]
  refine G.cond (fun h => ?_) (fun h => ?_)
  · exact h0 (by simpa using h)
  · obtain ⟨k, rfl, hk1, hk⟩ := inHeap_elim (by simpa using h)
    refine i.use (fun M hK => ?_) (h1 k rfl hk1 hk)
    rw [WordsR_open] at *
    intro v hv
    have e := elem_of hk
    try simp (maxSteps := 2000000) only [↓RG, RP, RB, BEq.rfl, Int.reduceEq, Int.reduceLT, Int.reduceLE, Nat.reduceEqDiff]
    exact hK v hv

end
end Go.Proofs.YtoealglbimbbmaaGreatDoor.S
