/-
  CHAPTER 8: WritesWhole, WritesPlays.
-/
import Derived.Test.YtlgdcfocnaifbaaWritesLaw
namespace Go.Proofs.Ytlgdcfocnaifbaa.S
open Go Go.Proofs
set_option linter.unusedVariables false
set_option linter.unusedSimpArgs false

theorem wPuts_snoc {most : Int} {d : TCell} : ∀ {l cs : List TCell}, wPuts most cs (l ++ [d]) = if (wPuts most cs l).2 = 0 then (if wErr most (wPuts most cs l).1 d.place = 0 then putC (wPuts most cs l).1 d.place d.word else (wPuts most cs l).1, wErr most (wPuts most cs l).1 d.place) else wPuts most cs l
  | [], cs => by
    have e : wPuts most cs [] = (cs, 0) := rfl
    rw [e, List.nil_append, wPuts_cons]
    by_cases h : wErr most cs d.place = 0
    · simp [h, wPuts]
    · simp [h]
  | c :: l, cs => by
    rw [List.cons_append, wPuts_cons, wPuts_cons]
    by_cases h : wErr most cs c.place = 0
    · rw [if_pos h, if_pos h]; exact wPuts_snoc
    · rw [if_neg h, if_neg h]; simp [h]
theorem wTake_err {most : Int} {cs l : List TCell} : (wTake most cs l).2 = (wPuts most cs l).2 := by
  unfold wTake
  split
  · rename_i h; rw [h]
  · rfl

section
variable {w0 : Base} {L M : List Asn} {K : KV} {F : World → Prop} {C : Asn → List Asn} {b : Nat} {cs : List TCell}

theorem s_law8_near {c : TCell} {i : Nat} (hK : ∀ d : TCell, G w0 L (K (.agg (TCell.cells d).toArray))) : G w0 L (CP Try.prog Fn.law8_near [.agg (TCell.cells c).toArray, i64 i] K) := by
  refine C_law8_near ?_
  unfold S_law8_near
  refine G.box fun p => ?_
  refine G.new fun q => ?_
  try simp (maxSteps := 2000000) only [↓RG, RP, true_and, and_true, beq_true, beq_false, Bool.true_beq, Bool.false_beq, BEq.rfl, Int.reduceEq, Int.reduceLT, Int.reduceLE, Nat.reduceEqDiff, decide_true, decide_false, Bool.not_true, Bool.not_false, Bool.and_true, Bool.true_and, Bool.and_false, Bool.false_and, Bool.or_true, Bool.true_or, Bool.or_false, Bool.false_or, Bool.not_not]
  refine G.cond (fun h => ?_) (fun h => ?_)
  · try simp (maxSteps := 2000000) only [↓RG, RP, true_and, and_true, beq_true, beq_false, Bool.true_beq, Bool.false_beq, BEq.rfl, Int.reduceEq, Int.reduceLT, Int.reduceLE, Nat.reduceEqDiff, decide_true, decide_false, Bool.not_true, Bool.not_false, Bool.and_true, Bool.true_and, Bool.and_false, Bool.false_and, Bool.or_true, Bool.true_or, Bool.or_false, Bool.false_or, Bool.not_not]
    exact (hK c).sub
  · repeat' (first | (with_reducible refine G.joini0 ?_) | (with_reducible refine G.joini1 ?_) | (with_reducible refine G.drew ?_) | (simp (maxSteps := 2000000) only [↓RG, RP, true_and, and_true, beq_true, beq_false, Bool.true_beq, Bool.false_beq, BEq.rfl, Int.reduceEq, Int.reduceLT, Int.reduceLE, Nat.reduceEqDiff, decide_true, decide_false, Bool.not_true, Bool.not_false, Bool.and_true, Bool.true_and, Bool.and_false, Bool.false_and, Bool.or_true, Bool.true_or, Bool.or_false, Bool.false_or, Bool.not_not]))
    refine s_book_Within (by omega) (by omega) (by omega) (by omega) ?_
    repeat' (first | (with_reducible refine G.joini0 ?_) | (with_reducible refine G.joini1 ?_) | (with_reducible refine G.drew ?_) | (simp (maxSteps := 2000000) only [↓RG, RP, true_and, and_true, beq_true, beq_false, Bool.true_beq, Bool.false_beq, BEq.rfl, Int.reduceEq, Int.reduceLT, Int.reduceLE, Nat.reduceEqDiff, decide_true, decide_false, Bool.not_true, Bool.not_false, Bool.and_true, Bool.true_and, Bool.and_false, Bool.false_and, Bool.or_true, Bool.true_or, Bool.or_false, Bool.false_or, Bool.not_not]))
    exact (hK ⟨within c.place 1 30, c.word⟩).sub

set_option maxHeartbeats 1000000 in
theorem s_law8_WritesWhole {most : Int} {l1 l2 : Value} {q1 q2 : List TCell} [a1 : Arg w0 l1 tCellE q1] [a2 : Arg w0 l2 tCellE q2] (hK : G w0 L (K (.bool true))) : G w0 L (CP Try.prog Fn.law8_WritesWhole [i64 most, l1, l2] K) := by
  refine C_law8_WritesWhole ?_
  unfold S_law8_WritesWhole
  refine s_law8_WritesRuns ?_
  try simp (maxSteps := 2000000) only [fuse_and, fuse_or, fuse_step, fuse_pair, fuse_in, andP_true]
  try simp (maxSteps := 2000000) only [↓RG, RP, true_and, and_true, beq_true, beq_false, Bool.true_beq, Bool.false_beq, BEq.rfl, Int.reduceEq, Int.reduceLT, Int.reduceLE, Nat.reduceEqDiff, decide_true, decide_false, Bool.not_true, Bool.not_false, Bool.and_true, Bool.true_and, Bool.and_false, Bool.false_and, Bool.or_true, Bool.true_or, Bool.or_false, Bool.false_or, Bool.not_not]
  refine s_writes_New fun x => ?_
  try simp (maxSteps := 2000000) only [↓RG, RP, true_and, and_true, beq_true, beq_false, Bool.true_beq, Bool.false_beq, BEq.rfl, Int.reduceEq, Int.reduceLT, Int.reduceLE, Nat.reduceEqDiff, decide_true, decide_false, Bool.not_true, Bool.not_false, Bool.and_true, Bool.true_and, Bool.and_false, Bool.false_and, Bool.or_true, Bool.true_or, Bool.or_false, Bool.false_or, Bool.not_not]
  refine s_writes_New fun y => ?_
  generalize held most 0 96 = m
  try simp (maxSteps := 2000000) only [↓RG, RP, true_and, and_true, beq_true, beq_false, Bool.true_beq, Bool.false_beq, BEq.rfl, Int.reduceEq, Int.reduceLT, Int.reduceLE, Nat.reduceEqDiff, decide_true, decide_false, Bool.not_true, Bool.not_false, Bool.and_true, Bool.true_and, Bool.and_false, Bool.false_and, Bool.or_true, Bool.true_or, Bool.or_false, Bool.false_or, Bool.not_not]
  refine G.loop1 (σ := Nat × List TCell) (fun z => i64 z.1) (fun z => ob WritesR y (m, z.2) :: ob WritesR x (m, z.2) :: L) (fun z => z.1 ≤ 30) (fun z => 30 - z.1) (0, []) rfl rfl (by simp) ?_
  rintro ⟨k, cs⟩ hk J hJ
  simp only at hk hJ ⊢
  try simp (maxSteps := 2000000) only [↓RG, RP, true_and, and_true, beq_true, beq_false, Bool.true_beq, Bool.false_beq, BEq.rfl, Int.reduceEq, Int.reduceLT, Int.reduceLE, Nat.reduceEqDiff, decide_true, decide_false, Bool.not_true, Bool.not_false, Bool.and_true, Bool.true_and, Bool.and_false, Bool.false_and, Bool.or_true, Bool.true_or, Bool.or_false, Bool.false_or, Bool.not_not]
  refine G.cond (fun h => ?_) (fun h => ?_)
  · have hk2 : k < q1.length ∧ k < 30 := by simp at h; omega
    obtain ⟨q, e⟩ : ∃ q, Elem q1 k q := ⟨_, elem_of hk2.1⟩
    try simp (maxSteps := 2000000) only [↓RG, RP, true_and, and_true, beq_true, beq_false, Bool.true_beq, Bool.false_beq, BEq.rfl, Int.reduceEq, Int.reduceLT, Int.reduceLE, Nat.reduceEqDiff, decide_true, decide_false, Bool.not_true, Bool.not_false, Bool.and_true, Bool.true_and, Bool.and_false, Bool.false_and, Bool.or_true, Bool.true_or, Bool.or_false, Bool.false_or, Bool.not_not]
    refine s_law8_near fun d => ?_
    refine G.new fun p => ?_
    repeat' (first | (with_reducible refine G.joini0 ?_) | (with_reducible refine G.joini1 ?_) | (with_reducible refine G.drew ?_) | (simp (maxSteps := 2000000) only [↓RG, RP, true_and, and_true, beq_true, beq_false, Bool.true_beq, Bool.false_beq, BEq.rfl, Int.reduceEq, Int.reduceLT, Int.reduceLE, Nat.reduceEqDiff, decide_true, decide_false, Bool.not_true, Bool.not_false, Bool.and_true, Bool.true_and, Bool.and_false, Bool.false_and, Bool.or_true, Bool.true_or, Bool.or_false, Bool.false_or, Bool.not_not]))
    refine s_writes_Writes_Put (b := x) (most := m) (cs := cs) ?_
    repeat' (first | (with_reducible refine G.joini0 ?_) | (with_reducible refine G.joini1 ?_) | (with_reducible refine G.drew ?_) | (simp (maxSteps := 2000000) only [↓RG, RP, true_and, and_true, beq_true, beq_false, Bool.true_beq, Bool.false_beq, BEq.rfl, Int.reduceEq, Int.reduceLT, Int.reduceLE, Nat.reduceEqDiff, decide_true, decide_false, Bool.not_true, Bool.not_false, Bool.and_true, Bool.true_and, Bool.and_false, Bool.false_and, Bool.or_true, Bool.true_or, Bool.or_false, Bool.false_or, Bool.not_not]))
    refine s_writes_Writes_Put (b := y) (most := m) (cs := cs) ?_
    repeat' (first | (with_reducible refine G.joini0 ?_) | (with_reducible refine G.joini1 ?_) | (with_reducible refine G.drew ?_) | (simp (maxSteps := 2000000) only [↓RG, RP, true_and, and_true, beq_true, beq_false, Bool.true_beq, Bool.false_beq, BEq.rfl, Int.reduceEq, Int.reduceLT, Int.reduceLE, Nat.reduceEqDiff, decide_true, decide_false, Bool.not_true, Bool.not_false, Bool.and_true, Bool.true_and, Bool.and_false, Bool.false_and, Bool.or_true, Bool.true_or, Bool.or_false, Bool.false_or, Bool.not_not]))
    rw [wsucc (by omega)]
    exact (hJ (k + 1, if wErr m cs d.place = 0 then putC cs d.place d.word else cs) hk2.2 (by simp; omega)).sub
  · refine G.okW (b := x) (most := m) (cs := cs) fun hw => ?_
    have b1 : (cs.length : Int) ≤ m := hw.len
    have b2 : m ≤ 96 := hw.hi
    refine s_writes_Writes_All (b := x) (most := m) (cs := cs) fun u0 hu0 => ?_
    refine G.nilsl tCellE ?_
    refine G.loop3 (σ := Value × List TCell × Nat) (fun z => z.1) (fun z => i64 (wPuts m cs z.2.1).2) (fun z => i64 z.2.2) (fun z => sl tCellE z.1 z.2.1 :: sl tCellE u0 cs :: ob WritesR y (m, (wPuts m cs z.2.1).1) :: ob WritesR x (m, cs) :: L) (fun z => z.2.2 ≤ 30 ∧ z.2.1.length = z.2.2 ∧ Cells z.1 [z.1]) (fun z => 30 - z.2.2) (.slice none 0 0, [], 0) rfl rfl rfl rfl ⟨by simp, rfl, cells_slice⟩ ?_
    rintro ⟨u, l, j⟩ ⟨hj, hl, hu⟩ J2 hJ2
    simp only at hj hl hu hJ2 ⊢
    try simp (maxSteps := 2000000) only [↓RG, RP, true_and, and_true, beq_true, beq_false, Bool.true_beq, Bool.false_beq, BEq.rfl, Int.reduceEq, Int.reduceLT, Int.reduceLE, Nat.reduceEqDiff, decide_true, decide_false, Bool.not_true, Bool.not_false, Bool.and_true, Bool.true_and, Bool.and_false, Bool.false_and, Bool.or_true, Bool.true_or, Bool.or_false, Bool.false_or, Bool.not_not]
    refine G.cond (fun h => ?_) (fun h => ?_)
    · have hj2 : j < q2.length ∧ j < 30 := by simp at h; omega
      obtain ⟨q, e⟩ : ∃ q, Elem q2 j q := ⟨_, elem_of hj2.1⟩
      try simp (maxSteps := 2000000) only [↓RG, RP, true_and, and_true, beq_true, beq_false, Bool.true_beq, Bool.false_beq, BEq.rfl, Int.reduceEq, Int.reduceLT, Int.reduceLE, Nat.reduceEqDiff, decide_true, decide_false, Bool.not_true, Bool.not_false, Bool.and_true, Bool.true_and, Bool.and_false, Bool.false_and, Bool.or_true, Bool.true_or, Bool.or_false, Bool.false_or, Bool.not_not]
      refine s_law8_near fun d => ?_
      refine G.append1 (E := tCellE) (a := d) rfl rfl (by decide) (by omega) (by simp only [maxLen]; omega) fun u2 hu2 => ?_
      have el : Elem (l ++ [d]) j d := ⟨by rw [← hl]; simp⟩
      have hs := wPuts_snoc (most := m) (cs := cs) (l := l) (d := d)
      have h := hJ2 (u2, l ++ [d], j + 1) ⟨hj2.2, by simp [hl], hu2⟩ (by simp; omega)
      simp only [hs] at h
      refine G.joini1 ?_
      by_cases he : (wPuts m cs l).2 = 0
      · rw [if_pos he] at h
        repeat' (first | (with_reducible refine G.joini0 ?_) | (with_reducible refine G.joini1 ?_) | (with_reducible refine G.drew ?_) | (simp (maxSteps := 2000000) only [↓RG, RP, true_and, and_true, beq_true, beq_false, Bool.true_beq, Bool.false_beq, BEq.rfl, Int.reduceEq, Int.reduceLT, Int.reduceLE, Nat.reduceEqDiff, decide_true, decide_false, Bool.not_true, Bool.not_false, Bool.and_true, Bool.true_and, Bool.and_false, Bool.false_and, Bool.or_true, Bool.true_or, Bool.or_false, Bool.false_or, Bool.not_not, he]))
        refine s_writes_Writes_Put (b := y) (most := m) (cs := (wPuts m cs l).1) ?_
        repeat' (first | (with_reducible refine G.joini0 ?_) | (with_reducible refine G.joini1 ?_) | (with_reducible refine G.drew ?_) | (simp (maxSteps := 2000000) only [↓RG, RP, true_and, and_true, beq_true, beq_false, Bool.true_beq, Bool.false_beq, BEq.rfl, Int.reduceEq, Int.reduceLT, Int.reduceLE, Nat.reduceEqDiff, decide_true, decide_false, Bool.not_true, Bool.not_false, Bool.and_true, Bool.true_and, Bool.and_false, Bool.false_and, Bool.or_true, Bool.true_or, Bool.or_false, Bool.false_or, Bool.not_not]))
        rw [wsucc (by omega)]
        exact h.sub
      · rw [if_neg he] at h
        repeat' (first | (with_reducible refine G.joini0 ?_) | (with_reducible refine G.joini1 ?_) | (with_reducible refine G.drew ?_) | (simp (maxSteps := 2000000) only [↓RG, RP, true_and, and_true, beq_true, beq_false, Bool.true_beq, Bool.false_beq, BEq.rfl, Int.reduceEq, Int.reduceLT, Int.reduceLE, Nat.reduceEqDiff, decide_true, decide_false, Bool.not_true, Bool.not_false, Bool.and_true, Bool.true_and, Bool.and_false, Bool.false_and, Bool.or_true, Bool.true_or, Bool.or_false, Bool.false_or, Bool.not_not, he]))
        rw [wsucc (by omega)]
        exact h.sub
    · refine s_writes_Writes_Take (b := x) (most := m) (cs := cs) (l := l) (by omega) ?_
      rw [wTake_err]
      by_cases he : (wPuts m cs l).2 = 0
      · have e2 : (wTake m cs l).1 = (wPuts m cs l).1 := by unfold wTake; rw [if_pos he]
        rw [e2]
        refine G.okW (b := x) (most := m) (cs := (wPuts m cs l).1) fun hw2 => ?_
        have b3 : ((wPuts m cs l).1.length : Int) ≤ m := hw2.len
        try simp (maxSteps := 2000000) only [↓RG, RP, true_and, and_true, beq_true, beq_false, Bool.true_beq, Bool.false_beq, BEq.rfl, Int.reduceEq, Int.reduceLT, Int.reduceLE, Nat.reduceEqDiff, decide_true, decide_false, Bool.not_true, Bool.not_false, Bool.and_true, Bool.true_and, Bool.and_false, Bool.false_and, Bool.or_true, Bool.true_or, Bool.or_false, Bool.false_or, Bool.not_not, he]
        refine s_writes_Writes_All (b := x) (most := m) (cs := (wPuts m cs l).1) fun u3 hu3 => ?_
        refine s_writes_Writes_All (b := y) (most := m) (cs := (wPuts m cs l).1) fun u4 hu4 => ?_
        refine s_book_Same_api_Cell (xs := (wPuts m cs l).1) (ys := (wPuts m cs l).1) (by omega) ?_
        try simp (maxSteps := 2000000) only [↓RG, RP, true_and, and_true, beq_true, beq_false, Bool.true_beq, Bool.false_beq, BEq.rfl, Int.reduceEq, Int.reduceLT, Int.reduceLE, Nat.reduceEqDiff, decide_true, decide_false, Bool.not_true, Bool.not_false, Bool.and_true, Bool.true_and, Bool.and_false, Bool.false_and, Bool.or_true, Bool.true_or, Bool.or_false, Bool.false_or, Bool.not_not]
        exact hK.sub
      · have e2 : (wTake m cs l).1 = cs := by unfold wTake; rw [if_neg he]
        rw [e2]
        try simp (maxSteps := 2000000) only [↓RG, RP, true_and, and_true, beq_true, beq_false, Bool.true_beq, Bool.false_beq, BEq.rfl, Int.reduceEq, Int.reduceLT, Int.reduceLE, Nat.reduceEqDiff, decide_true, decide_false, Bool.not_true, Bool.not_false, Bool.and_true, Bool.true_and, Bool.and_false, Bool.false_and, Bool.or_true, Bool.true_or, Bool.or_false, Bool.false_or, Bool.not_not, he]
        refine s_writes_Writes_All (b := x) (most := m) (cs := cs) fun u3 hu3 => ?_
        refine s_book_Same_api_Cell (xs := cs) (ys := cs) (by omega) ?_
        try simp (maxSteps := 2000000) only [↓RG, RP, true_and, and_true, beq_true, beq_false, Bool.true_beq, Bool.false_beq, BEq.rfl, Int.reduceEq, Int.reduceLT, Int.reduceLE, Nat.reduceEqDiff, decide_true, decide_false, Bool.not_true, Bool.not_false, Bool.and_true, Bool.true_and, Bool.and_false, Bool.false_and, Bool.or_true, Bool.true_or, Bool.or_false, Bool.false_or, Bool.not_not]
        exact hK.sub

end
end Go.Proofs.Ytlgdcfocnaifbaa.S
