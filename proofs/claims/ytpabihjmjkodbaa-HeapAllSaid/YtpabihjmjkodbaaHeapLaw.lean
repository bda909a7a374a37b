/-
  CHAPTER 2: the statements' own functions.
-/
import Derived.Test.YtpabihjmjkodbaaHeap
namespace Go.Proofs.Ytpabihjmjkodbaa.S
open Go Go.Proofs
set_option linter.unusedVariables false
set_option linter.unusedSimpArgs false

section
variable {w0 : World} {L M : List Asn} {K : KV} {F : World → Prop} {C : Asn → List Asn} {b : Nat} {xs : List Int}

theorem s_law2_HeapRuns (hK : G w0 L (K (.bool true))) : G w0 L (CP Try.prog Fn.law2_HeapRuns [] K) := by
  refine C_law2_HeapRuns ?_
  unfold S_law2_HeapRuns
  refine s_heap_New fun b => ?_
  have e1 : (held 40 32 256).toNat = 40 := by decide
  rw [e1]
  try simp only [↓RG, RP, true_and, and_true, beq_true, beq_false, Bool.true_beq, Bool.false_beq, BEq.rfl, Int.reduceEq, Int.reduceLT, Int.reduceLE, Nat.reduceEqDiff, decide_true, decide_false, Bool.not_true, Bool.not_false, Bool.and_true, Bool.true_and, Bool.and_false, Bool.false_and, Bool.or_true, Bool.true_or, Bool.or_false, Bool.false_or, Bool.not_not]
  refine s_heap_Heap_Store (fun k hk _ hl => ?_) (fun h => by simp [inHeap] at h)
  obtain rfl : k = 39 := by omega
  refine s_heap_Heap_Load (fun k hk _ hl => ?_) (fun h => by simp [inHeap] at h)
  obtain rfl : k = 39 := by omega
  have e2 : ((List.replicate 40 (0 : Int)).set 39 7).getD 39 0 = 7 := by decide
  rw [e2]
  try simp only [↓RG, RP, true_and, and_true, beq_true, beq_false, Bool.true_beq, Bool.false_beq, BEq.rfl, Int.reduceEq, Int.reduceLT, Int.reduceLE, Nat.reduceEqDiff, decide_true, decide_false, Bool.not_true, Bool.not_false, Bool.and_true, Bool.true_and, Bool.and_false, Bool.false_and, Bool.or_true, Bool.true_or, Bool.or_false, Bool.false_or, Bool.not_not]
  refine s_heap_Heap_Load (fun k hk _ hl => ?_) (fun h => ?_)
  · exfalso; simp at hl; omega
  try simp only [↓RG, RP, true_and, and_true, beq_true, beq_false, Bool.true_beq, Bool.false_beq, BEq.rfl, Int.reduceEq, Int.reduceLT, Int.reduceLE, Nat.reduceEqDiff, decide_true, decide_false, Bool.not_true, Bool.not_false, Bool.and_true, Bool.true_and, Bool.and_false, Bool.false_and, Bool.or_true, Bool.true_or, Bool.or_false, Bool.false_or, Bool.not_not]
  refine s_heap_Heap_Load (fun k hk h1 hl => ?_) (fun h => ?_)
  · exfalso; omega
  try simp only [↓RG, RP, true_and, and_true, beq_true, beq_false, Bool.true_beq, Bool.false_beq, BEq.rfl, Int.reduceEq, Int.reduceLT, Int.reduceLE, Nat.reduceEqDiff, decide_true, decide_false, Bool.not_true, Bool.not_false, Bool.and_true, Bool.true_and, Bool.and_false, Bool.false_and, Bool.or_true, Bool.true_or, Bool.or_false, Bool.false_or, Bool.not_not]
  refine s_heap_Heap_Len ?_
  try simp [↓RG, RP]
  refine s_heap_Heap_All (by simp) fun u hu => ?_
  try simp [↓RG, RP]
  refine s_heap_Heap_Copy (by simp) fun c => ?_
  try simp only [↓RG, RP, true_and, and_true, beq_true, beq_false, Bool.true_beq, Bool.false_beq, BEq.rfl, Int.reduceEq, Int.reduceLT, Int.reduceLE, Nat.reduceEqDiff, decide_true, decide_false, Bool.not_true, Bool.not_false, Bool.and_true, Bool.true_and, Bool.and_false, Bool.false_and, Bool.or_true, Bool.true_or, Bool.or_false, Bool.false_or, Bool.not_not]
  exact hK.sub

theorem s_law2_do {v l : Value} {qs : List AskHeap} [a : ∀ ys, Rd w0 (ob WordsR b ys :: sl wordE v ys :: M) l askHeapE 3 qs] (hx : xs.length ≤ 1000) (hK : ∀ ys, ys.length = xs.length → G w0 (ob WordsR b ys :: sl wordE v ys :: M) (K (.bool true))) :
    G w0 (ob WordsR b xs :: sl wordE v xs :: M) (CP Try.prog Fn.law2_do [ptr b 0, v, l] K) := by
  refine C_law2_do ?_
  unfold S_law2_do
  refine G.loop1 (fun s : Nat × List Int => i64 s.1) (fun s => ob WordsR b s.2 :: sl wordE v s.2 :: M) (fun s => s.1 ≤ 100 ∧ s.2.length = xs.length) (fun s => 100 - s.1) (0, xs) rfl rfl ⟨by simp, rfl⟩ ?_
  rintro ⟨k, ys⟩ ⟨hk, hy⟩ J hJ
  simp only at hk hy hJ ⊢
  have a2 := a ys
  try simp only [fuse_and, fuse_or, fuse_step, fuse_pair, fuse_in, andP_true]
  try simp only [↓RG, RP, true_and, and_true, beq_true, beq_false, Bool.true_beq, Bool.false_beq, BEq.rfl, Int.reduceEq, Int.reduceLT, Int.reduceLE, Nat.reduceEqDiff, decide_true, decide_false, Bool.not_true, Bool.not_false, Bool.and_true, Bool.true_and, Bool.and_false, Bool.false_and, Bool.or_true, Bool.true_or, Bool.or_false, Bool.false_or, Bool.not_not]
  refine G.cond (fun h => ?_) (fun h => ?_)
  · have hk2 : k < qs.length ∧ k < 100 := by simp at h; omega
    obtain ⟨q, e⟩ : ∃ q, Elem qs k q := ⟨_, elem_of hk2.1⟩
    obtain ⟨st, pl, x⟩ := q
    try simp only [↓RG, RP, true_and, and_true, beq_true, beq_false, Bool.true_beq, Bool.false_beq, BEq.rfl, Int.reduceEq, Int.reduceLT, Int.reduceLE, Nat.reduceEqDiff, decide_true, decide_false, Bool.not_true, Bool.not_false, Bool.and_true, Bool.true_and, Bool.and_false, Bool.false_and, Bool.or_true, Bool.true_or, Bool.or_false, Bool.false_or, Bool.not_not]
    refine G.new fun p => ?_
    try simp only [↓RG, RP, true_and, and_true, beq_true, beq_false, Bool.true_beq, Bool.false_beq, BEq.rfl, Int.reduceEq, Int.reduceLT, Int.reduceLE, Nat.reduceEqDiff, decide_true, decide_false, Bool.not_true, Bool.not_false, Bool.and_true, Bool.true_and, Bool.and_false, Bool.false_and, Bool.or_true, Bool.true_or, Bool.or_false, Bool.false_or, Bool.not_not]
    refine G.all (decide (pl < ys.length)) (fun _ K hK => by try simp only [↓RG, RP, true_and, and_true, beq_true, beq_false, Bool.true_beq, Bool.false_beq, BEq.rfl, Int.reduceEq, Int.reduceLT, Int.reduceLE, Nat.reduceEqDiff, decide_true, decide_false, Bool.not_true, Bool.not_false, Bool.and_true, Bool.true_and, Bool.and_false, Bool.false_and, Bool.or_true, Bool.true_or, Bool.or_false, Bool.false_or, Bool.not_not]; exact hK) ?_
    have next : ∀ zs : List Int, zs.length = ys.length → G w0 (own p [.bool st, i64 pl, u64 x] :: ob WordsR b zs :: sl wordE v zs :: M) (J (.int .i64 (IntKind.wrap .i64 ((k : Int) + 1)))) := fun zs hz => by
      rw [wsucc (by omega)]
      exact (hJ (k + 1, zs) ⟨by simp; omega, by simp; omega⟩ (by simp; omega)).sub
    have hin : (decide (1 ≤ pl) && decide (pl < ys.length)) = inHeap pl ys := rfl
    simp only [hin]
    try simp only [↓RG, RP, true_and, and_true, beq_true, beq_false, Bool.true_beq, Bool.false_beq, BEq.rfl, Int.reduceEq, Int.reduceLT, Int.reduceLE, Nat.reduceEqDiff, decide_true, decide_false, Bool.not_true, Bool.not_false, Bool.and_true, Bool.true_and, Bool.and_false, Bool.false_and, Bool.or_true, Bool.true_or, Bool.or_false, Bool.false_or, Bool.not_not]
    refine G.join0 (σ := List Int) (fun zs => own p [.bool st, i64 pl, u64 x] :: ob WordsR b zs :: sl wordE v zs :: M) (fun zs => zs.length = ys.length) (fun zs hz => ?_) (fun J2 hJ2 => ?_)
    · have hz2 : inHeap pl zs = inHeap pl ys := by simp [inHeap, hz]
      try simp only [↓RG, RP, true_and, and_true, beq_true, beq_false, Bool.true_beq, Bool.false_beq, BEq.rfl, Int.reduceEq, Int.reduceLT, Int.reduceLE, Nat.reduceEqDiff, decide_true, decide_false, Bool.not_true, Bool.not_false, Bool.and_true, Bool.true_and, Bool.and_false, Bool.false_and, Bool.or_true, Bool.true_or, Bool.or_false, Bool.false_or, Bool.not_not]
      refine s_heap_Heap_Load (xs := zs) (fun n hn _ hl => ?_) (fun h => ?_)
      · have hb : inHeap pl ys = true := by simp [inHeap]; omega
        have e := elem_of hl
        have e2 : zs.getD n 0 = zs[n] := by simp [hl]
        have ix : IxI pl n := ⟨hn⟩
        try simp only [↓RG, RP, true_and, and_true, beq_true, beq_false, Bool.true_beq, Bool.false_beq, BEq.rfl, Int.reduceEq, Int.reduceLT, Int.reduceLE, Nat.reduceEqDiff, decide_true, decide_false, Bool.not_true, Bool.not_false, Bool.and_true, Bool.true_and, Bool.and_false, Bool.false_and, Bool.or_true, Bool.true_or, Bool.or_false, Bool.false_or, Bool.not_not, hb, e2]
        exact next zs hz
      · try simp only [↓RG, RP, true_and, and_true, beq_true, beq_false, Bool.true_beq, Bool.false_beq, BEq.rfl, Int.reduceEq, Int.reduceLT, Int.reduceLE, Nat.reduceEqDiff, decide_true, decide_false, Bool.not_true, Bool.not_false, Bool.and_true, Bool.true_and, Bool.and_false, Bool.false_and, Bool.or_true, Bool.true_or, Bool.or_false, Bool.false_or, Bool.not_not, hz2 ▸ h]
        exact next zs hz
    · cases st
      · try simp only [↓RG, RP, true_and, and_true, beq_true, beq_false, Bool.true_beq, Bool.false_beq, BEq.rfl, Int.reduceEq, Int.reduceLT, Int.reduceLE, Nat.reduceEqDiff, decide_true, decide_false, Bool.not_true, Bool.not_false, Bool.and_true, Bool.true_and, Bool.and_false, Bool.false_and, Bool.or_true, Bool.true_or, Bool.or_false, Bool.false_or, Bool.not_not]
        exact hJ2 ys rfl
      · try simp only [↓RG, RP, true_and, and_true, beq_true, beq_false, Bool.true_beq, Bool.false_beq, BEq.rfl, Int.reduceEq, Int.reduceLT, Int.reduceLE, Nat.reduceEqDiff, decide_true, decide_false, Bool.not_true, Bool.not_false, Bool.and_true, Bool.true_and, Bool.and_false, Bool.false_and, Bool.or_true, Bool.true_or, Bool.or_false, Bool.false_or, Bool.not_not]
        refine s_heap_Heap_Store (fun n hn _ hl => ?_) (fun h => ?_)
        · have hb : inHeap pl ys = true := by simp [inHeap]; omega
          have e := elem_of hl
          try simp only [↓RG, RP, true_and, and_true, beq_true, beq_false, Bool.true_beq, Bool.false_beq, BEq.rfl, Int.reduceEq, Int.reduceLT, Int.reduceLE, Nat.reduceEqDiff, decide_true, decide_false, Bool.not_true, Bool.not_false, Bool.and_true, Bool.true_and, Bool.and_false, Bool.false_and, Bool.or_true, Bool.true_or, Bool.or_false, Bool.false_or, Bool.not_not, hb]
          refine G.joini0 ?_
          subst hn
          try simp only [↓RG, RP, true_and, and_true, beq_true, beq_false, Bool.true_beq, Bool.false_beq, BEq.rfl, Int.reduceEq, Int.reduceLT, Int.reduceLE, Nat.reduceEqDiff, decide_true, decide_false, Bool.not_true, Bool.not_false, Bool.and_true, Bool.true_and, Bool.and_false, Bool.false_and, Bool.or_true, Bool.true_or, Bool.or_false, Bool.false_or, Bool.not_not]
          exact hJ2 _ (by simp)
        · try simp only [↓RG, RP, true_and, and_true, beq_true, beq_false, Bool.true_beq, Bool.false_beq, BEq.rfl, Int.reduceEq, Int.reduceLT, Int.reduceLE, Nat.reduceEqDiff, decide_true, decide_false, Bool.not_true, Bool.not_false, Bool.and_true, Bool.true_and, Bool.and_false, Bool.false_and, Bool.or_true, Bool.true_or, Bool.or_false, Bool.false_or, Bool.not_not, h]
          refine G.joini0 ?_
          try simp only [↓RG, RP, true_and, and_true, beq_true, beq_false, Bool.true_beq, Bool.false_beq, BEq.rfl, Int.reduceEq, Int.reduceLT, Int.reduceLE, Nat.reduceEqDiff, decide_true, decide_false, Bool.not_true, Bool.not_false, Bool.and_true, Bool.true_and, Bool.and_false, Bool.false_and, Bool.or_true, Bool.true_or, Bool.or_false, Bool.false_or, Bool.not_not]
          exact hJ2 ys rfl
  · refine s_heap_Heap_All (xs := ys) (by omega) fun u hu => ?_
    try simp only [↓RG, RP, true_and, and_true, beq_true, beq_false, Bool.true_beq, Bool.false_beq, BEq.rfl, Int.reduceEq, Int.reduceLT, Int.reduceLE, Nat.reduceEqDiff, decide_true, decide_false, Bool.not_true, Bool.not_false, Bool.and_true, Bool.true_and, Bool.and_false, Bool.false_and, Bool.or_true, Bool.true_or, Bool.or_false, Bool.false_or, Bool.not_not]
    refine s_heap_Heap_Len (xs := ys) ?_
    try simp only [↓RG, RP, true_and, and_true, beq_true, beq_false, Bool.true_beq, Bool.false_beq, BEq.rfl, Int.reduceEq, Int.reduceLT, Int.reduceLE, Nat.reduceEqDiff, decide_true, decide_false, Bool.not_true, Bool.not_false, Bool.and_true, Bool.true_and, Bool.and_false, Bool.false_and, Bool.or_true, Bool.true_or, Bool.or_false, Bool.false_or, Bool.not_not]
    refine G.loopc1 (fun j : Nat => i64 j) (fun j => j ≤ ys.length) (fun j => ys.length - j) 0 rfl (by simp) ?_
    intro j hj J3 hJ3
    try simp only [↓RG, RP, true_and, and_true, beq_true, beq_false, Bool.true_beq, Bool.false_beq, BEq.rfl, Int.reduceEq, Int.reduceLT, Int.reduceLE, Nat.reduceEqDiff, decide_true, decide_false, Bool.not_true, Bool.not_false, Bool.and_true, Bool.true_and, Bool.and_false, Bool.false_and, Bool.or_true, Bool.true_or, Bool.or_false, Bool.false_or, Bool.not_not]
    refine G.cond (fun h => ?_) (fun h => ?_)
    · have hj2 : j < ys.length := by simpa using h
      have e := elem_of hj2
      refine G.drew ?_
      try simp only [↓RG, RP, true_and, and_true, beq_true, beq_false, Bool.true_beq, Bool.false_beq, BEq.rfl, Int.reduceEq, Int.reduceLT, Int.reduceLE, Nat.reduceEqDiff, decide_true, decide_false, Bool.not_true, Bool.not_false, Bool.and_true, Bool.true_and, Bool.and_false, Bool.false_and, Bool.or_true, Bool.true_or, Bool.or_false, Bool.false_or, Bool.not_not]
      rw [wsucc (by omega)]
      exact hJ3 (j + 1) hj2 (by omega)
    · exact (hK ys hy).sub

theorem s_law2_HeapPlays {n : Int} {l : Value} {qs : List AskHeap} [a : Arg w0 l askHeapE qs] (hK : G w0 L (K (.bool true))) : G w0 L (CP Try.prog Fn.law2_HeapPlays [i64 n, l] K) := by
  refine C_law2_HeapPlays ?_
  unfold S_law2_HeapPlays
  refine s_law2_HeapRuns ?_
  try simp only [↓RG, RP, true_and, and_true, beq_true, beq_false, Bool.true_beq, Bool.false_beq, BEq.rfl, Int.reduceEq, Int.reduceLT, Int.reduceLE, Nat.reduceEqDiff, decide_true, decide_false, Bool.not_true, Bool.not_false, Bool.and_true, Bool.true_and, Bool.and_false, Bool.false_and, Bool.or_true, Bool.true_or, Bool.or_false, Bool.false_or, Bool.not_not]
  refine s_heap_New fun b => ?_
  try simp only [↓RG, RP, true_and, and_true, beq_true, beq_false, Bool.true_beq, Bool.false_beq, BEq.rfl, Int.reduceEq, Int.reduceLT, Int.reduceLE, Nat.reduceEqDiff, decide_true, decide_false, Bool.not_true, Bool.not_false, Bool.and_true, Bool.true_and, Bool.and_false, Bool.false_and, Bool.or_true, Bool.true_or, Bool.or_false, Bool.false_or, Bool.not_not]
  refine s_ref1_Held ?_
  have hb := held_le (n := n) (show (32 : Int) ≤ 256 by omega)
  have eh : i64 (held n 32 256) = i64 ((held n 32 256).toNat : Nat) := by rw [Int.toNat_of_nonneg (by omega)]
  try simp only [↓RG, RP, true_and, and_true, beq_true, beq_false, Bool.true_beq, Bool.false_beq, BEq.rfl, Int.reduceEq, Int.reduceLT, Int.reduceLE, Nat.reduceEqDiff, decide_true, decide_false, Bool.not_true, Bool.not_false, Bool.and_true, Bool.true_and, Bool.and_false, Bool.false_and, Bool.or_true, Bool.true_or, Bool.or_false, Bool.false_or, Bool.not_not, eh]
  refine G.make wordE 0 rfl (by simp only [maxLen]; omega) (by omega) fun v hv => ?_
  refine G.take1 WordsR b ?_
  refine s_law2_do (qs := qs) (by simp; omega) fun ys hy => ?_
  try simp only [↓RG, RP, true_and, and_true, beq_true, beq_false, Bool.true_beq, Bool.false_beq, BEq.rfl, Int.reduceEq, Int.reduceLT, Int.reduceLE, Nat.reduceEqDiff, decide_true, decide_false, Bool.not_true, Bool.not_false, Bool.and_true, Bool.true_and, Bool.and_false, Bool.false_and, Bool.or_true, Bool.true_or, Bool.or_false, Bool.false_or, Bool.not_not]
  exact hK.sub

theorem s_law2_HeapCopies {n : Int} {l1 l2 l3 : Value} {q1 q2 q3 : List AskHeap} [a1 : Arg w0 l1 askHeapE q1] [a2 : Arg w0 l2 askHeapE q2] [a3 : Arg w0 l3 askHeapE q3] (hK : G w0 L (K (.bool true))) :
    G w0 L (CP Try.prog Fn.law2_HeapCopies [i64 n, l1, l2, l3] K) := by
  refine C_law2_HeapCopies ?_
  unfold S_law2_HeapCopies
  refine s_law2_HeapRuns ?_
  try simp only [↓RG, RP, true_and, and_true, beq_true, beq_false, Bool.true_beq, Bool.false_beq, BEq.rfl, Int.reduceEq, Int.reduceLT, Int.reduceLE, Nat.reduceEqDiff, decide_true, decide_false, Bool.not_true, Bool.not_false, Bool.and_true, Bool.true_and, Bool.and_false, Bool.false_and, Bool.or_true, Bool.true_or, Bool.or_false, Bool.false_or, Bool.not_not]
  refine s_heap_New fun b => ?_
  try simp only [↓RG, RP, true_and, and_true, beq_true, beq_false, Bool.true_beq, Bool.false_beq, BEq.rfl, Int.reduceEq, Int.reduceLT, Int.reduceLE, Nat.reduceEqDiff, decide_true, decide_false, Bool.not_true, Bool.not_false, Bool.and_true, Bool.true_and, Bool.and_false, Bool.false_and, Bool.or_true, Bool.true_or, Bool.or_false, Bool.false_or, Bool.not_not]
  refine s_ref1_Held ?_
  have hb := held_le (n := n) (show (32 : Int) ≤ 256 by omega)
  have eh : i64 (held n 32 256) = i64 ((held n 32 256).toNat : Nat) := by rw [Int.toNat_of_nonneg (by omega)]
  simp only [eh]
  refine G.make wordE 0 rfl (by simp only [maxLen]; omega) (by omega) fun v hv => ?_
  try simp only [↓RG, RP, true_and, and_true, beq_true, beq_false, Bool.true_beq, Bool.false_beq, BEq.rfl, Int.reduceEq, Int.reduceLT, Int.reduceLE, Nat.reduceEqDiff, decide_true, decide_false, Bool.not_true, Bool.not_false, Bool.and_true, Bool.true_and, Bool.and_false, Bool.false_and, Bool.or_true, Bool.true_or, Bool.or_false, Bool.false_or, Bool.not_not]
  refine G.take1 WordsR b ?_
  refine s_law2_do (qs := q1) (by simp; omega) fun ys hy => ?_
  simp only [List.length_replicate] at hy
  try simp only [↓RG, RP, true_and, and_true, beq_true, beq_false, Bool.true_beq, Bool.false_beq, BEq.rfl, Int.reduceEq, Int.reduceLT, Int.reduceLE, Nat.reduceEqDiff, decide_true, decide_false, Bool.not_true, Bool.not_false, Bool.and_true, Bool.true_and, Bool.and_false, Bool.false_and, Bool.or_true, Bool.true_or, Bool.or_false, Bool.false_or, Bool.not_not]
  refine s_heap_Heap_Copy (xs := ys) (by omega) fun c => ?_
  refine G.nilsl wordE ?_
  refine G.append (xs := []) (ys := ys) (by simp; omega) (by simp [maxLen]; omega) fun u hu => ?_
  simp only [List.nil_append]
  try simp only [↓RG, RP, true_and, and_true, beq_true, beq_false, Bool.true_beq, Bool.false_beq, BEq.rfl, Int.reduceEq, Int.reduceLT, Int.reduceLE, Nat.reduceEqDiff, decide_true, decide_false, Bool.not_true, Bool.not_false, Bool.and_true, Bool.true_and, Bool.and_false, Bool.false_and, Bool.or_true, Bool.true_or, Bool.or_false, Bool.false_or, Bool.not_not]
  refine G.take1 WordsR c ?_
  refine s_law2_do (qs := q2) (by omega) fun zs hz => ?_
  try simp only [↓RG, RP, true_and, and_true, beq_true, beq_false, Bool.true_beq, Bool.false_beq, BEq.rfl, Int.reduceEq, Int.reduceLT, Int.reduceLE, Nat.reduceEqDiff, decide_true, decide_false, Bool.not_true, Bool.not_false, Bool.and_true, Bool.true_and, Bool.and_false, Bool.false_and, Bool.or_true, Bool.true_or, Bool.or_false, Bool.false_or, Bool.not_not]
  refine G.take1 (slR wordE) v ?_
  refine G.take1 WordsR b ?_
  refine s_law2_do (qs := q3) (by omega) fun ys2 hy2 => ?_
  try simp only [↓RG, RP, true_and, and_true, beq_true, beq_false, Bool.true_beq, Bool.false_beq, BEq.rfl, Int.reduceEq, Int.reduceLT, Int.reduceLE, Nat.reduceEqDiff, decide_true, decide_false, Bool.not_true, Bool.not_false, Bool.and_true, Bool.true_and, Bool.and_false, Bool.false_and, Bool.or_true, Bool.true_or, Bool.or_false, Bool.false_or, Bool.not_not]
  refine G.nilsl askHeapE ?_
  refine G.take1 (slR wordE) u ?_
  refine G.take1 WordsR c ?_
  refine s_law2_do (qs := []) (by omega) fun zs2 hz2 => ?_
  try simp only [↓RG, RP, true_and, and_true, beq_true, beq_false, Bool.true_beq, Bool.false_beq, BEq.rfl, Int.reduceEq, Int.reduceLT, Int.reduceLE, Nat.reduceEqDiff, decide_true, decide_false, Bool.not_true, Bool.not_false, Bool.and_true, Bool.true_and, Bool.and_false, Bool.false_and, Bool.or_true, Bool.true_or, Bool.or_false, Bool.false_or, Bool.not_not]
  exact hK.sub

theorem s_law2_HeapAll {n t : Int} {l : Value} {qs : List AskHeap} [a : Arg w0 l askHeapE qs] (hK : G w0 L (K (.bool true))) : G w0 L (CP Try.prog Fn.law2_HeapAll [i64 n, l, i64 t] K) := by
  refine C_law2_HeapAll ?_
  unfold S_law2_HeapAll
  refine s_law2_HeapRuns ?_
  try simp only [↓RG, RP, true_and, and_true, beq_true, beq_false, Bool.true_beq, Bool.false_beq, BEq.rfl, Int.reduceEq, Int.reduceLT, Int.reduceLE, Nat.reduceEqDiff, decide_true, decide_false, Bool.not_true, Bool.not_false, Bool.and_true, Bool.true_and, Bool.and_false, Bool.false_and, Bool.or_true, Bool.true_or, Bool.or_false, Bool.false_or, Bool.not_not]
  refine s_heap_New fun b => ?_
  try simp only [↓RG, RP, true_and, and_true, beq_true, beq_false, Bool.true_beq, Bool.false_beq, BEq.rfl, Int.reduceEq, Int.reduceLT, Int.reduceLE, Nat.reduceEqDiff, decide_true, decide_false, Bool.not_true, Bool.not_false, Bool.and_true, Bool.true_and, Bool.and_false, Bool.false_and, Bool.or_true, Bool.true_or, Bool.or_false, Bool.false_or, Bool.not_not]
  refine s_ref1_Held ?_
  have hb := held_le (n := n) (show (32 : Int) ≤ 256 by omega)
  have eh : i64 (held n 32 256) = i64 ((held n 32 256).toNat : Nat) := by rw [Int.toNat_of_nonneg (by omega)]
  simp only [eh]
  refine G.make wordE 0 rfl (by simp only [maxLen]; omega) (by omega) fun v hv => ?_
  try simp only [↓RG, RP, true_and, and_true, beq_true, beq_false, Bool.true_beq, Bool.false_beq, BEq.rfl, Int.reduceEq, Int.reduceLT, Int.reduceLE, Nat.reduceEqDiff, decide_true, decide_false, Bool.not_true, Bool.not_false, Bool.and_true, Bool.true_and, Bool.and_false, Bool.false_and, Bool.or_true, Bool.true_or, Bool.or_false, Bool.false_or, Bool.not_not]
  refine G.take1 WordsR b ?_
  refine s_law2_do (qs := qs) (by simp; omega) fun ys hy => ?_
  simp only [List.length_replicate] at hy
  try simp only [↓RG, RP, true_and, and_true, beq_true, beq_false, Bool.true_beq, Bool.false_beq, BEq.rfl, Int.reduceEq, Int.reduceLT, Int.reduceLE, Nat.reduceEqDiff, decide_true, decide_false, Bool.not_true, Bool.not_false, Bool.and_true, Bool.true_and, Bool.and_false, Bool.false_and, Bool.or_true, Bool.true_or, Bool.or_false, Bool.false_or, Bool.not_not]
  refine s_heap_Heap_All (xs := ys) (by omega) fun u hu => ?_
  try simp only [↓RG, RP, true_and, and_true, beq_true, beq_false, Bool.true_beq, Bool.false_beq, BEq.rfl, Int.reduceEq, Int.reduceLT, Int.reduceLE, Nat.reduceEqDiff, decide_true, decide_false, Bool.not_true, Bool.not_false, Bool.and_true, Bool.true_and, Bool.and_false, Bool.false_and, Bool.or_true, Bool.true_or, Bool.or_false, Bool.false_or, Bool.not_not]
  refine s_ref1_Held ?_
  rw [wi64 (by omega) (by omega)]
  have hb2 := held_le (n := t) (show (0 : Int) ≤ (ys.length : Int) - 1 by omega)
  obtain ⟨q, hq⟩ := Int.eq_ofNat_of_zero_le hb2.1
  rw [hq]
  have e := elem_of (show q < ys.length by omega)
  try simp only [↓RG, RP, true_and, and_true, beq_true, beq_false, Bool.true_beq, Bool.false_beq, BEq.rfl, Int.reduceEq, Int.reduceLT, Int.reduceLE, Nat.reduceEqDiff, decide_true, decide_false, Bool.not_true, Bool.not_false, Bool.and_true, Bool.true_and, Bool.and_false, Bool.false_and, Bool.or_true, Bool.true_or, Bool.or_false, Bool.false_or, Bool.not_not]
  refine G.nilsl askHeapE ?_
  refine G.take1 (slR wordE) v ?_
  refine G.take1 WordsR b ?_
  refine s_law2_do (qs := []) (by omega) fun zs2 hz2 => ?_
  exact hK.sub

end
end Go.Proofs.Ytpabihjmjkodbaa.S
