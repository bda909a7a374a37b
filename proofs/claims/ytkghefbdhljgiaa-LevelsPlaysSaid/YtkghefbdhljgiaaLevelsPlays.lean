/-
  CHAPTER 9: the program's levels and the reference's, side by side.
-/
import Derived.Test.YtkghefbdhljgiaaRefLevelsC
namespace Go.Proofs.Ytkghefbdhljgiaa.S
open Go Go.Proofs
set_option linter.unusedVariables false
set_option linter.unusedSimpArgs false

theorem lOpen_frees {s : LvS} : (lOpen s).1.frees.length = s.frees.length := by
  unfold lOpen
  split
  · rfl
  · simp [LvS.frees, freesR]
theorem lDrop_frees {s : LvS} : (lDrop s).1.frees.length ≤ s.frees.length := by
  unfold lDrop
  cases e : s.up with
  | nil => simp
  | cons q up => simp [LvS.frees, e, freesR]
theorem free_frees {s : LvS} {n : Int} : (s.free n).frees.length = s.frees.length + 1 := by
  simp [LvS.free, LvS.frees, freesR]; omega
theorem put_frees {s : LvS} {a x : Int} : (s.put a x).frees = s.frees := by simp [LvS.put, LvS.frees, freesR]
theorem lPuts_frees : ∀ {l : List TCell} {s : LvS}, (lPuts s l).1.frees = s.frees
  | [], s => rfl
  | c :: l, s => by
    unfold lPuts
    split
    · rw [lPuts_frees, put_frees]
    · rfl
theorem lTake_frees {s : LvS} {l : List TCell} : (lTake s l).1.frees = s.frees := by
  unfold lTake
  split
  · exact lPuts_frees
  · rfl
theorem r_frees {s : LvS} : s.r.f.length ≤ s.frees.length := by simp [LvS.frees, freesR]

section
variable {w0 : Base} {L M : List Asn} {K : KV} {F : World → Prop} {C : Asn → List Asn} {b c : Nat} {s : LvS}

theorem s_law9_place {a i : Int} (hK : ∀ n : Int, G w0 L (K (i64 n))) : G w0 L (CP Try.prog Fn.law9_place [i64 a, i64 i] K) := by
  refine C_law9_place ?_
  unfold S_law9_place
  try simp (maxSteps := 2000000) only [↓RG, RP, true_and, and_true, beq_true, beq_false, Bool.true_beq, Bool.false_beq, BEq.rfl, Int.reduceEq, Int.reduceLT, Int.reduceLE, Nat.reduceEqDiff, decide_true, decide_false, Bool.not_true, Bool.not_false, Bool.and_true, Bool.true_and, Bool.and_false, Bool.false_and, Bool.or_true, Bool.true_or, Bool.or_false, Bool.false_or, Bool.not_not]
  refine G.cond (fun h => ?_) (fun h => ?_)
  · exact hK a
  · refine s_book_Within (by omega) (by omega) (by omega) (by omega) ?_
    exact hK _

set_option maxHeartbeats 1000000 in
theorem s_law9_do {q : AskLevels} {ys : List TCell} {i : Nat} [a : Arg w0 q.cs.v tCellE ys] (hi : i ≤ 100) (hf : s.frees.length ≤ 1000) (hK : ∀ s', s'.frees.length ≤ s.frees.length + 1 → G w0 (ob LevelsR b s' :: ob RLevelsR c s' :: M) (K (.bool true))) :
    G w0 (ob LevelsR b s :: ob RLevelsR c s :: M) (CP Try.prog Fn.law9_do [ptr b 0, ptr c 0, .agg (AskLevels.cells q).toArray, i64 i] K) := by
  have hr := r_frees (s := s)
  refine C_law9_do ?_
  unfold S_law9_do
  refine G.box fun x1 => ?_
  try simp (maxSteps := 2000000) only [↓RG, RP, true_and, and_true, beq_true, beq_false, Bool.true_beq, Bool.false_beq, BEq.rfl, Int.reduceEq, Int.reduceLT, Int.reduceLE, Nat.reduceEqDiff, decide_true, decide_false, Bool.not_true, Bool.not_false, Bool.and_true, Bool.true_and, Bool.and_false, Bool.false_and, Bool.or_true, Bool.true_or, Bool.or_false, Bool.false_or, Bool.not_not]
  refine s_book_Within (by omega) (by omega) (by omega) (by omega) ?_
  generalize within q.kind 0 9 = kd
  try simp (maxSteps := 2000000) only [↓RG, RP, true_and, and_true, beq_true, beq_false, Bool.true_beq, Bool.false_beq, BEq.rfl, Int.reduceEq, Int.reduceLT, Int.reduceLE, Nat.reduceEqDiff, decide_true, decide_false, Bool.not_true, Bool.not_false, Bool.and_true, Bool.true_and, Bool.and_false, Bool.false_and, Bool.or_true, Bool.true_or, Bool.or_false, Bool.false_or, Bool.not_not]
  refine G.cond (fun h => ?_) (fun h => ?_)
  · refine s_levels_Levels_Open (b := b) (s := s) ?_
    refine s_ref7_Levels_Open (b := c) (s := s) ?_
    have h := hK (lOpen s).1 (by rw [lOpen_frees]; omega)
    try simp (maxSteps := 2000000) only [↓RG, RP, true_and, and_true, beq_true, beq_false, Bool.true_beq, Bool.false_beq, BEq.rfl, Int.reduceEq, Int.reduceLT, Int.reduceLE, Nat.reduceEqDiff, decide_true, decide_false, Bool.not_true, Bool.not_false, Bool.and_true, Bool.true_and, Bool.and_false, Bool.false_and, Bool.or_true, Bool.true_or, Bool.or_false, Bool.false_or, Bool.not_not]
    exact h.sub
  refine G.cond (fun h => ?_) (fun h => ?_)
  · refine s_levels_Levels_Keep (b := b) (s := s) (by omega) ?_
    refine s_ref7_Levels_Keep (b := c) (s := s) (by omega) ?_
    have h := hK (lKeep s).1 (by rw [lKeep_frees]; omega)
    try simp (maxSteps := 2000000) only [↓RG, RP, true_and, and_true, beq_true, beq_false, Bool.true_beq, Bool.false_beq, BEq.rfl, Int.reduceEq, Int.reduceLT, Int.reduceLE, Nat.reduceEqDiff, decide_true, decide_false, Bool.not_true, Bool.not_false, Bool.and_true, Bool.true_and, Bool.and_false, Bool.false_and, Bool.or_true, Bool.true_or, Bool.or_false, Bool.false_or, Bool.not_not]
    exact h.sub
  refine G.cond (fun h => ?_) (fun h => ?_)
  · refine s_levels_Levels_Drop (b := b) (s := s) ?_
    refine s_ref7_Levels_Drop (b := c) (s := s) ?_
    have h := hK (lDrop s).1 (by have := lDrop_frees (s := s); omega)
    try simp (maxSteps := 2000000) only [↓RG, RP, true_and, and_true, beq_true, beq_false, Bool.true_beq, Bool.false_beq, BEq.rfl, Int.reduceEq, Int.reduceLT, Int.reduceLE, Nat.reduceEqDiff, decide_true, decide_false, Bool.not_true, Bool.not_false, Bool.and_true, Bool.true_and, Bool.and_false, Bool.false_and, Bool.or_true, Bool.true_or, Bool.or_false, Bool.false_or, Bool.not_not]
    exact h.sub
  refine G.cond (fun h => ?_) (fun h => ?_)
  · try simp (maxSteps := 2000000) only [↓RG, RP, true_and, and_true, beq_true, beq_false, Bool.true_beq, Bool.false_beq, BEq.rfl, Int.reduceEq, Int.reduceLT, Int.reduceLE, Nat.reduceEqDiff, decide_true, decide_false, Bool.not_true, Bool.not_false, Bool.and_true, Bool.true_and, Bool.and_false, Bool.false_and, Bool.or_true, Bool.true_or, Bool.or_false, Bool.false_or, Bool.not_not]
    refine s_levels_Levels_Free (b := b) (s := s) (by omega) ?_
    try simp (maxSteps := 2000000) only [↓RG, RP, true_and, and_true, beq_true, beq_false, Bool.true_beq, Bool.false_beq, BEq.rfl, Int.reduceEq, Int.reduceLT, Int.reduceLE, Nat.reduceEqDiff, decide_true, decide_false, Bool.not_true, Bool.not_false, Bool.and_true, Bool.true_and, Bool.and_false, Bool.false_and, Bool.or_true, Bool.true_or, Bool.or_false, Bool.false_or, Bool.not_not]
    refine s_ref7_Levels_Free (b := c) (s := s) (by omega) ?_
    have h := hK (s.free q.place) (by rw [free_frees]; omega)
    exact h.sub
  refine G.cond (fun h => ?_) (fun h => ?_)
  · refine G.nilsl tCellE ?_
    refine G.loop2 (σ := Value × List TCell × Nat) (fun z => z.1) (fun z => i64 z.2.2) (fun z => sl tCellE z.1 z.2.1 :: own x1 [i64 q.kind, i64 q.place, u64 q.v, .slice q.cs.a q.cs.n q.cs.c] :: ob LevelsR b s :: ob RLevelsR c s :: M) (fun z => z.2.2 ≤ 6 ∧ z.2.1.length ≤ z.2.2 ∧ Cells z.1 [z.1]) (fun z => 6 - z.2.2) (.slice none 0 0, [], 0) rfl rfl rfl ⟨by simp, by simp, cells_slice⟩ ?_
    rintro ⟨u, cs, k⟩ ⟨hk, hcs, hu⟩ J hJ
    simp only at hk hcs hu hJ ⊢
    try simp (maxSteps := 2000000) only [fuse_and, fuse_or, fuse_step, fuse_pair, fuse_in, andP_true]
    try simp (maxSteps := 2000000) only [↓RG, RP, true_and, and_true, beq_true, beq_false, Bool.true_beq, Bool.false_beq, BEq.rfl, Int.reduceEq, Int.reduceLT, Int.reduceLE, Nat.reduceEqDiff, decide_true, decide_false, Bool.not_true, Bool.not_false, Bool.and_true, Bool.true_and, Bool.and_false, Bool.false_and, Bool.or_true, Bool.true_or, Bool.or_false, Bool.false_or, Bool.not_not]
    refine G.cond (fun h => ?_) (fun h => ?_)
    · have hk2 : k < ys.length ∧ k < 6 := by simp at h; omega
      have e := elem_of hk2.1
      repeat' (first | (with_reducible refine G.joini0 ?_) | (with_reducible refine G.joini1 ?_) | (with_reducible refine G.drew ?_) | (simp (maxSteps := 2000000) only [↓RG, RP, true_and, and_true, beq_true, beq_false, Bool.true_beq, Bool.false_beq, BEq.rfl, Int.reduceEq, Int.reduceLT, Int.reduceLE, Nat.reduceEqDiff, decide_true, decide_false, Bool.not_true, Bool.not_false, Bool.and_true, Bool.true_and, Bool.and_false, Bool.false_and, Bool.or_true, Bool.true_or, Bool.or_false, Bool.false_or, Bool.not_not]))
      have w1 : IntKind.wrap .i64 ((i : Int) + k) = ((i + k : Nat) : Int) := by rw [wi64 (by omega) (by omega)]; omega
      rw [w1]
      refine s_law9_place fun n => ?_
      repeat' (first | (with_reducible refine G.joini0 ?_) | (with_reducible refine G.joini1 ?_) | (with_reducible refine G.drew ?_) | (simp (maxSteps := 2000000) only [↓RG, RP, true_and, and_true, beq_true, beq_false, Bool.true_beq, Bool.false_beq, BEq.rfl, Int.reduceEq, Int.reduceLT, Int.reduceLE, Nat.reduceEqDiff, decide_true, decide_false, Bool.not_true, Bool.not_false, Bool.and_true, Bool.true_and, Bool.and_false, Bool.false_and, Bool.or_true, Bool.true_or, Bool.or_false, Bool.false_or, Bool.not_not]))
      refine G.build tCellE [⟨n, ys[k].word⟩] rfl (by simp) rfl fun u3 hu3 => ?_
      repeat' (first | (with_reducible refine G.joini0 ?_) | (with_reducible refine G.joini1 ?_) | (with_reducible refine G.drew ?_) | (simp (maxSteps := 2000000) only [↓RG, RP, true_and, and_true, beq_true, beq_false, Bool.true_beq, Bool.false_beq, BEq.rfl, Int.reduceEq, Int.reduceLT, Int.reduceLE, Nat.reduceEqDiff, decide_true, decide_false, Bool.not_true, Bool.not_false, Bool.and_true, Bool.true_and, Bool.and_false, Bool.false_and, Bool.or_true, Bool.true_or, Bool.or_false, Bool.false_or, Bool.not_not]))
      refine G.append (xs := cs) (ys := [⟨n, ys[k].word⟩]) (by simp; omega) (by simp [maxLen]; omega) fun u4 hu4 => ?_
      repeat' (first | (with_reducible refine G.joini0 ?_) | (with_reducible refine G.joini1 ?_) | (with_reducible refine G.drew ?_) | (simp (maxSteps := 2000000) only [↓RG, RP, true_and, and_true, beq_true, beq_false, Bool.true_beq, Bool.false_beq, BEq.rfl, Int.reduceEq, Int.reduceLT, Int.reduceLE, Nat.reduceEqDiff, decide_true, decide_false, Bool.not_true, Bool.not_false, Bool.and_true, Bool.true_and, Bool.and_false, Bool.false_and, Bool.or_true, Bool.true_or, Bool.or_false, Bool.false_or, Bool.not_not]))
      rw [wsucc (by omega)]
      have h := hJ (u4, cs ++ [⟨n, ys[k].word⟩], k + 1) ⟨hk2.2, by simp; omega, hu4⟩ (by simp; omega)
      exact h.sub
    · refine s_levels_Levels_Take (b := b) (s := s) (l := cs) (by omega) ?_
      refine s_ref7_Levels_Take (b := c) (s := s) (l := cs) (by omega) (by omega) ?_
      have h := hK (lTake s cs).1 (by rw [lTake_frees]; omega)
      try simp (maxSteps := 2000000) only [↓RG, RP, true_and, and_true, beq_true, beq_false, Bool.true_beq, Bool.false_beq, BEq.rfl, Int.reduceEq, Int.reduceLT, Int.reduceLE, Nat.reduceEqDiff, decide_true, decide_false, Bool.not_true, Bool.not_false, Bool.and_true, Bool.true_and, Bool.and_false, Bool.false_and, Bool.or_true, Bool.true_or, Bool.or_false, Bool.false_or, Bool.not_not]
      exact h.sub
  · try simp (maxSteps := 2000000) only [↓RG, RP, true_and, and_true, beq_true, beq_false, Bool.true_beq, Bool.false_beq, BEq.rfl, Int.reduceEq, Int.reduceLT, Int.reduceLE, Nat.reduceEqDiff, decide_true, decide_false, Bool.not_true, Bool.not_false, Bool.and_true, Bool.true_and, Bool.and_false, Bool.false_and, Bool.or_true, Bool.true_or, Bool.or_false, Bool.false_or, Bool.not_not]
    refine s_law9_place fun n => ?_
    repeat' (first | (with_reducible refine G.joini0 ?_) | (with_reducible refine G.joini1 ?_) | (with_reducible refine G.drew ?_) | (simp (maxSteps := 2000000) only [↓RG, RP, true_and, and_true, beq_true, beq_false, Bool.true_beq, Bool.false_beq, BEq.rfl, Int.reduceEq, Int.reduceLT, Int.reduceLE, Nat.reduceEqDiff, decide_true, decide_false, Bool.not_true, Bool.not_false, Bool.and_true, Bool.true_and, Bool.and_false, Bool.false_and, Bool.or_true, Bool.true_or, Bool.or_false, Bool.false_or, Bool.not_not]))
    refine s_levels_Levels_Put (b := b) (s := s) ?_
    repeat' (first | (with_reducible refine G.joini0 ?_) | (with_reducible refine G.joini1 ?_) | (with_reducible refine G.drew ?_) | (simp (maxSteps := 2000000) only [↓RG, RP, true_and, and_true, beq_true, beq_false, Bool.true_beq, Bool.false_beq, BEq.rfl, Int.reduceEq, Int.reduceLT, Int.reduceLE, Nat.reduceEqDiff, decide_true, decide_false, Bool.not_true, Bool.not_false, Bool.and_true, Bool.true_and, Bool.and_false, Bool.false_and, Bool.or_true, Bool.true_or, Bool.or_false, Bool.false_or, Bool.not_not]))
    refine s_ref7_Levels_Put (b := c) (s := s) ?_
    have h := hK (if lErr s n = 0 then s.put n q.v else s) (by split <;> (try rw [put_frees]) <;> omega)
    repeat' (first | (with_reducible refine G.joini0 ?_) | (with_reducible refine G.joini1 ?_) | (with_reducible refine G.drew ?_) | (simp (maxSteps := 2000000) only [↓RG, RP, true_and, and_true, beq_true, beq_false, Bool.true_beq, Bool.false_beq, BEq.rfl, Int.reduceEq, Int.reduceLT, Int.reduceLE, Nat.reduceEqDiff, decide_true, decide_false, Bool.not_true, Bool.not_false, Bool.and_true, Bool.true_and, Bool.and_false, Bool.false_and, Bool.or_true, Bool.true_or, Bool.or_false, Bool.false_or, Bool.not_not]))
    exact h.sub

set_option maxHeartbeats 1000000 in
theorem s_law9_same (hf : s.frees.length ≤ 1000) (hK : G w0 (ob LevelsR b s :: ob RLevelsR c s :: M) (K (.bool true))) : G w0 (ob LevelsR b s :: ob RLevelsR c s :: M) (CP Try.prog Fn.law9_same [ptr b 0, ptr c 0] K) := by
  refine G.okL (b := b) (s := s) fun hs => ?_
  have hc := cells_le hs
  refine C_law9_same ?_
  unfold S_law9_same
  refine s_ref7_Levels_Whole (b := c) (s := s) (by omega) ?_
  rintro ⟨uc, uf⟩ ⟨h1, h2⟩
  simp only at h1 h2 ⊢
  refine G.new fun x2 => ?_
  try simp (maxSteps := 2000000) only [↓RG, RP, true_and, and_true, beq_true, beq_false, Bool.true_beq, Bool.false_beq, BEq.rfl, Int.reduceEq, Int.reduceLT, Int.reduceLE, Nat.reduceEqDiff, decide_true, decide_false, Bool.not_true, Bool.not_false, Bool.and_true, Bool.true_and, Bool.and_false, Bool.false_and, Bool.or_true, Bool.true_or, Bool.or_false, Bool.false_or, Bool.not_not]
  refine G.loopc1 (fun k : Nat => i64 k) (fun k => k ≤ 22) (fun k => 22 - k) 0 rfl (by simp) ?_
  intro k hk J hJ
  try simp (maxSteps := 2000000) only [↓RG, RP, true_and, and_true, beq_true, beq_false, Bool.true_beq, Bool.false_beq, BEq.rfl, Int.reduceEq, Int.reduceLT, Int.reduceLE, Nat.reduceEqDiff, decide_true, decide_false, Bool.not_true, Bool.not_false, Bool.and_true, Bool.true_and, Bool.and_false, Bool.false_and, Bool.or_true, Bool.true_or, Bool.or_false, Bool.false_or, Bool.not_not]
  refine G.cond (fun h => ?_) (fun h => ?_)
  · have hk2 : k ≤ 21 := by simp at h; omega
    refine s_levels_Levels_Get (b := b) (s := s) (a := k) ?_
    cases hl : lookR (s.r :: s.up) k with
    | none =>
      have e : lookRV s k = .tuple #[u64 0, .bool false] := by unfold lookRV; rw [hl]
      rw [e]
      try simp (maxSteps := 2000000) only [↓RG, RP, true_and, and_true, beq_true, beq_false, Bool.true_beq, Bool.false_beq, BEq.rfl, Int.reduceEq, Int.reduceLT, Int.reduceLE, Nat.reduceEqDiff, decide_true, decide_false, Bool.not_true, Bool.not_false, Bool.and_true, Bool.true_and, Bool.and_false, Bool.false_and, Bool.or_true, Bool.true_or, Bool.or_false, Bool.false_or, Bool.not_not]
      refine s_ref7_Levels_Get (b := c) (s := s) (a := k) ?_
      rw [e]
      try simp (maxSteps := 2000000) only [↓RG, RP, true_and, and_true, beq_true, beq_false, Bool.true_beq, Bool.false_beq, BEq.rfl, Int.reduceEq, Int.reduceLT, Int.reduceLE, Nat.reduceEqDiff, decide_true, decide_false, Bool.not_true, Bool.not_false, Bool.and_true, Bool.true_and, Bool.and_false, Bool.false_and, Bool.or_true, Bool.true_or, Bool.or_false, Bool.false_or, Bool.not_not]
      rw [wsucc (by omega)]
      exact hJ (k + 1) (by omega) (by omega)
    | some y =>
      have e : lookRV s k = .tuple #[u64 y, .bool true] := by unfold lookRV; rw [hl]
      rw [e]
      try simp (maxSteps := 2000000) only [↓RG, RP, true_and, and_true, beq_true, beq_false, Bool.true_beq, Bool.false_beq, BEq.rfl, Int.reduceEq, Int.reduceLT, Int.reduceLE, Nat.reduceEqDiff, decide_true, decide_false, Bool.not_true, Bool.not_false, Bool.and_true, Bool.true_and, Bool.and_false, Bool.false_and, Bool.or_true, Bool.true_or, Bool.or_false, Bool.false_or, Bool.not_not]
      refine s_ref7_Levels_Get (b := c) (s := s) (a := k) ?_
      rw [e]
      try simp (maxSteps := 2000000) only [↓RG, RP, true_and, and_true, beq_true, beq_false, Bool.true_beq, Bool.false_beq, BEq.rfl, Int.reduceEq, Int.reduceLT, Int.reduceLE, Nat.reduceEqDiff, decide_true, decide_false, Bool.not_true, Bool.not_false, Bool.and_true, Bool.true_and, Bool.and_false, Bool.false_and, Bool.or_true, Bool.true_or, Bool.or_false, Bool.false_or, Bool.not_not]
      rw [wsucc (by omega)]
      exact hJ (k + 1) (by omega) (by omega)
  · repeat' (first | (with_reducible refine G.joini0 ?_) | (with_reducible refine G.joini1 ?_) | (with_reducible refine G.drew ?_) | (simp (maxSteps := 2000000) only [↓RG, RP, true_and, and_true, beq_true, beq_false, Bool.true_beq, Bool.false_beq, BEq.rfl, Int.reduceEq, Int.reduceLT, Int.reduceLE, Nat.reduceEqDiff, decide_true, decide_false, Bool.not_true, Bool.not_false, Bool.and_true, Bool.true_and, Bool.and_false, Bool.false_and, Bool.or_true, Bool.true_or, Bool.or_false, Bool.false_or, Bool.not_not]))
    refine s_levels_Levels_Cells (b := b) (s := s) fun u hu => ?_
    repeat' (first | (with_reducible refine G.joini0 ?_) | (with_reducible refine G.joini1 ?_) | (with_reducible refine G.drew ?_) | (simp (maxSteps := 2000000) only [↓RG, RP, true_and, and_true, beq_true, beq_false, Bool.true_beq, Bool.false_beq, BEq.rfl, Int.reduceEq, Int.reduceLT, Int.reduceLE, Nat.reduceEqDiff, decide_true, decide_false, Bool.not_true, Bool.not_false, Bool.and_true, Bool.true_and, Bool.and_false, Bool.false_and, Bool.or_true, Bool.true_or, Bool.or_false, Bool.false_or, Bool.not_not]))
    refine s_book_Same_api_Cell (xs := s.cells) (ys := s.cells) (by omega) ?_
    repeat' (first | (with_reducible refine G.joini0 ?_) | (with_reducible refine G.joini1 ?_) | (with_reducible refine G.drew ?_) | (simp (maxSteps := 2000000) only [↓RG, RP, true_and, and_true, beq_true, beq_false, Bool.true_beq, Bool.false_beq, BEq.rfl, Int.reduceEq, Int.reduceLT, Int.reduceLE, Nat.reduceEqDiff, decide_true, decide_false, Bool.not_true, Bool.not_false, Bool.and_true, Bool.true_and, Bool.and_false, Bool.false_and, Bool.or_true, Bool.true_or, Bool.or_false, Bool.false_or, Bool.not_not]))
    refine s_levels_Levels_Frees (b := b) (s := s) (by omega) fun u2 hu2 => ?_
    repeat' (first | (with_reducible refine G.joini0 ?_) | (with_reducible refine G.joini1 ?_) | (with_reducible refine G.drew ?_) | (simp (maxSteps := 2000000) only [↓RG, RP, true_and, and_true, beq_true, beq_false, Bool.true_beq, Bool.false_beq, BEq.rfl, Int.reduceEq, Int.reduceLT, Int.reduceLE, Nat.reduceEqDiff, decide_true, decide_false, Bool.not_true, Bool.not_false, Bool.and_true, Bool.true_and, Bool.and_false, Bool.false_and, Bool.or_true, Bool.true_or, Bool.or_false, Bool.false_or, Bool.not_not]))
    refine s_book_Same_int (xs := s.frees) (ys := s.frees) (by omega) ?_
    refine G.take1 RLevelsR c ?_
    rw [RLevelsR_in]
    rintro v3 k3 us3 ⟨hv3, hs3, hu3⟩
    have hul := rus_len hu3
    have hll : (rks us3 ++ [k3]).length = s.up.length + 1 := by simp [hul]
    repeat' (first | (with_reducible refine G.joini0 ?_) | (with_reducible refine G.joini1 ?_) | (with_reducible refine G.drew ?_) | (simp (maxSteps := 2000000) only [↓RG, RP, true_and, and_true, beq_true, beq_false, Bool.true_beq, Bool.false_beq, BEq.rfl, Int.reduceEq, Int.reduceLT, Int.reduceLE, Nat.reduceEqDiff, decide_true, decide_false, Bool.not_true, Bool.not_false, Bool.and_true, Bool.true_and, Bool.and_false, Bool.false_and, Bool.or_true, Bool.true_or, Bool.or_false, Bool.false_or, Bool.not_not, hll]))
    refine s_levels_Levels_Depth (b := b) (s := s) ?_
    repeat' (first | (with_reducible refine G.joini0 ?_) | (with_reducible refine G.joini1 ?_) | (with_reducible refine G.drew ?_) | (simp (maxSteps := 2000000) only [↓RG, RP, true_and, and_true, beq_true, beq_false, Bool.true_beq, Bool.false_beq, BEq.rfl, Int.reduceEq, Int.reduceLT, Int.reduceLE, Nat.reduceEqDiff, decide_true, decide_false, Bool.not_true, Bool.not_false, Bool.and_true, Bool.true_and, Bool.and_false, Bool.false_and, Bool.or_true, Bool.true_or, Bool.or_false, Bool.false_or, Bool.not_not]))
    refine RLevelsR_close c s us3 k3 rfl ⟨hv3, hs3, hu3⟩ ?_
    refine s_levels_Levels_Room (b := b) (s := s) ?_
    repeat' (first | (with_reducible refine G.joini0 ?_) | (with_reducible refine G.joini1 ?_) | (with_reducible refine G.drew ?_) | (simp (maxSteps := 2000000) only [↓RG, RP, true_and, and_true, beq_true, beq_false, Bool.true_beq, Bool.false_beq, BEq.rfl, Int.reduceEq, Int.reduceLT, Int.reduceLE, Nat.reduceEqDiff, decide_true, decide_false, Bool.not_true, Bool.not_false, Bool.and_true, Bool.true_and, Bool.and_false, Bool.false_and, Bool.or_true, Bool.true_or, Bool.or_false, Bool.false_or, Bool.not_not]))
    refine s_ref7_Levels_Room (b := c) (s := s) ?_
    repeat' (first | (with_reducible refine G.joini0 ?_) | (with_reducible refine G.joini1 ?_) | (with_reducible refine G.drew ?_) | (simp (maxSteps := 2000000) only [↓RG, RP, true_and, and_true, beq_true, beq_false, Bool.true_beq, Bool.false_beq, BEq.rfl, Int.reduceEq, Int.reduceLT, Int.reduceLE, Nat.reduceEqDiff, decide_true, decide_false, Bool.not_true, Bool.not_false, Bool.and_true, Bool.true_and, Bool.and_false, Bool.false_and, Bool.or_true, Bool.true_or, Bool.or_false, Bool.false_or, Bool.not_not]))
    exact hK.sub

theorem s_law9_LevelsPlays {most : Int} {l : Value} {qs : List AskLevels} [a : Arg w0 l askLevelsE qs] (hq1 : ∀ q ∈ qs, AskLevels.Q w0 q) (hK : G w0 L (K (.bool true))) : G w0 L (CP Try.prog Fn.law9_LevelsPlays [i64 most, l] K) := by
  refine C_law9_LevelsPlays ?_
  unfold S_law9_LevelsPlays
  try simp (maxSteps := 2000000) only [fuse_and, fuse_or, fuse_step, fuse_pair, fuse_in, andP_true]
  refine s_law9_LevelsRuns ?_
  try simp (maxSteps := 2000000) only [↓RG, RP, true_and, and_true, beq_true, beq_false, Bool.true_beq, Bool.false_beq, BEq.rfl, Int.reduceEq, Int.reduceLT, Int.reduceLE, Nat.reduceEqDiff, decide_true, decide_false, Bool.not_true, Bool.not_false, Bool.and_true, Bool.true_and, Bool.and_false, Bool.false_and, Bool.or_true, Bool.true_or, Bool.or_false, Bool.false_or, Bool.not_not]
  refine s_levels_New fun b => ?_
  try simp (maxSteps := 2000000) only [↓RG, RP, true_and, and_true, beq_true, beq_false, Bool.true_beq, Bool.false_beq, BEq.rfl, Int.reduceEq, Int.reduceLT, Int.reduceLE, Nat.reduceEqDiff, decide_true, decide_false, Bool.not_true, Bool.not_false, Bool.and_true, Bool.true_and, Bool.and_false, Bool.false_and, Bool.or_true, Bool.true_or, Bool.or_false, Bool.false_or, Bool.not_not]
  refine s_ref7_NewLevels fun c => ?_
  try simp (maxSteps := 2000000) only [↓RG, RP, true_and, and_true, beq_true, beq_false, Bool.true_beq, Bool.false_beq, BEq.rfl, Int.reduceEq, Int.reduceLT, Int.reduceLE, Nat.reduceEqDiff, decide_true, decide_false, Bool.not_true, Bool.not_false, Bool.and_true, Bool.true_and, Bool.and_false, Bool.false_and, Bool.or_true, Bool.true_or, Bool.or_false, Bool.false_or, Bool.not_not]
  refine G.loop1 (σ := Nat × LvS) (fun z => i64 z.1) (fun z => ob LevelsR b z.2 :: ob RLevelsR c z.2 :: L) (fun z => z.1 ≤ qs.length ∧ z.1 ≤ 60 ∧ z.2.frees.length ≤ z.1) (fun z => qs.length - z.1) (0, ⟨held most 0 96, ⟨[], []⟩, []⟩) rfl (by funext F; exact G_swap) ⟨by simp, by simp, by simp [LvS.frees, freesR]⟩ ?_
  rintro ⟨k, z⟩ ⟨hk, hk60, hz⟩ J hJ
  simp only at hk hk60 hz hJ ⊢
  try simp (maxSteps := 2000000) only [↓RG, RP, true_and, and_true, beq_true, beq_false, Bool.true_beq, Bool.false_beq, BEq.rfl, Int.reduceEq, Int.reduceLT, Int.reduceLE, Nat.reduceEqDiff, decide_true, decide_false, Bool.not_true, Bool.not_false, Bool.and_true, Bool.true_and, Bool.and_false, Bool.false_and, Bool.or_true, Bool.true_or, Bool.or_false, Bool.false_or, Bool.not_not]
  refine G.cond (fun h => ?_) (fun h => ?_)
  · have hk2 : k < qs.length ∧ k < 60 := by simp at h; omega
    obtain ⟨q, e⟩ : ∃ q, Elem qs k q := ⟨_, elem_of hk2.1⟩
    obtain ⟨ys, hy⟩ := hq1 q (List.mem_of_getElem? e.eq)
    try simp (maxSteps := 2000000) only [↓RG, RP, true_and, and_true, beq_true, beq_false, Bool.true_beq, Bool.false_beq, BEq.rfl, Int.reduceEq, Int.reduceLT, Int.reduceLE, Nat.reduceEqDiff, decide_true, decide_false, Bool.not_true, Bool.not_false, Bool.and_true, Bool.true_and, Bool.and_false, Bool.false_and, Bool.or_true, Bool.true_or, Bool.or_false, Bool.false_or, Bool.not_not]
    refine s_law9_do (b := b) (c := c) (s := z) (q := q) (ys := ys) (by omega) (by omega) fun s' hs' => ?_
    try simp (maxSteps := 2000000) only [↓RG, RP, true_and, and_true, beq_true, beq_false, Bool.true_beq, Bool.false_beq, BEq.rfl, Int.reduceEq, Int.reduceLT, Int.reduceLE, Nat.reduceEqDiff, decide_true, decide_false, Bool.not_true, Bool.not_false, Bool.and_true, Bool.true_and, Bool.and_false, Bool.false_and, Bool.or_true, Bool.true_or, Bool.or_false, Bool.false_or, Bool.not_not]
    refine s_law9_same (b := b) (c := c) (s := s') (by omega) ?_
    try simp (maxSteps := 2000000) only [↓RG, RP, true_and, and_true, beq_true, beq_false, Bool.true_beq, Bool.false_beq, BEq.rfl, Int.reduceEq, Int.reduceLT, Int.reduceLE, Nat.reduceEqDiff, decide_true, decide_false, Bool.not_true, Bool.not_false, Bool.and_true, Bool.true_and, Bool.and_false, Bool.false_and, Bool.or_true, Bool.true_or, Bool.or_false, Bool.false_or, Bool.not_not]
    rw [wsucc (by omega)]
    exact hJ (k + 1, s') ⟨hk2.1, hk2.2, by simp only; omega⟩ (by simp; omega)
  · exact hK.sub

end
end Go.Proofs.Ytkghefbdhljgiaa.S
