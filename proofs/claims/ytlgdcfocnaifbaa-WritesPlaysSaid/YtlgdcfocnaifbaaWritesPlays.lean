/-
  CHAPTER 8: WritesWhole, WritesPlays.
-/
import Derived.Test.YtlgdcfocnaifbaaWritesLaw
import Derived.Test.YtlgdcfocnaifbaaArr
namespace Go.Proofs.Ytlgdcfocnaifbaa.S
open Go Go.Proofs
set_option linter.unusedVariables false
set_option linter.unusedSimpArgs false

theorem wPuts_snoc {most : Int} {d : TCell} : ∀ {l cs : List TCell}, wPuts most cs (l ++ [d]) = if (wPuts most cs l).2 = 0 then (if wErr most (wPuts most cs l).1 d.place = 0 then putC (wPuts most cs l).1 d.place d.word else (wPuts most cs l).1, wErr most (wPuts most cs l).1 d.place) else wPuts most cs l
  | [], cs => by
    have e : wPuts most cs [] = (cs, 0) := rfl
    rw [e, List.nil_append, wPuts_cons]
    by_cases h : wErr most cs d.place = 0
    · simp [h, wPuts]
    · simp [h]
  | c :: l, cs => by
    rw [List.cons_append, wPuts_cons, wPuts_cons]
    by_cases h : wErr most cs c.place = 0
    · rw [if_pos h, if_pos h]; exact wPuts_snoc
    · rw [if_neg h, if_neg h]; simp [h]
theorem wTake_err {most : Int} {cs l : List TCell} : (wTake most cs l).2 = (wPuts most cs l).2 := by
  unfold wTake
  split
  · rename_i h; rw [h]
  · rfl

section
variable {w0 : Base} {L M : List Asn} {K : KV} {F : World → Prop} {C : Asn → List Asn} {b : Nat} {cs : List TCell}

theorem s_law8_near {c : TCell} {i : Nat} (hK : ∀ d : TCell, G w0 L (K (.agg (TCell.cells d).toArray))) : G w0 L (CP Try.prog Fn.law8_near [.agg (TCell.cells c).toArray, i64 i] K) := by
  refine C_law8_near ?_
  unfold S_law8_near
  refine G.box fun p => ?_
  refine G.new fun q => ?_
  try simp (maxSteps := 2000000) only [↓RG, RP, true_and, and_true, beq_true, beq_false, Bool.true_beq, Bool.false_beq, BEq.rfl, Int.reduceEq, Int.reduceLT, Int.reduceLE, Nat.reduceEqDiff, decide_true, decide_false, Bool.not_true, Bool.not_false, Bool.and_true, Bool.true_and, Bool.and_false, Bool.false_and, Bool.or_true, Bool.true_or, Bool.or_false, Bool.false_or, Bool.not_not]
  refine G.cond (fun h => ?_) (fun h => ?_)
  · try simp (maxSteps := 2000000) only [↓RG, RP, true_and, and_true, beq_true, beq_false, Bool.true_beq, Bool.false_beq, BEq.rfl, Int.reduceEq, Int.reduceLT, Int.reduceLE, Nat.reduceEqDiff, decide_true, decide_false, Bool.not_true, Bool.not_false, Bool.and_true, Bool.true_and, Bool.and_false, Bool.false_and, Bool.or_true, Bool.true_or, Bool.or_false, Bool.false_or, Bool.not_not]
    exact (hK c).sub
  · repeat' (first | (with_reducible refine G.joini0 ?_) | (with_reducible refine G.joini1 ?_) | (with_reducible refine G.drew ?_) | (simp (maxSteps := 2000000) only [↓RG, RP, true_and, and_true, beq_true, beq_false, Bool.true_beq, Bool.false_beq, BEq.rfl, Int.reduceEq, Int.reduceLT, Int.reduceLE, Nat.reduceEqDiff, decide_true, decide_false, Bool.not_true, Bool.not_false, Bool.and_true, Bool.true_and, Bool.and_false, Bool.false_and, Bool.or_true, Bool.true_or, Bool.or_false, Bool.false_or, Bool.not_not]))
    refine s_book_Within (by omega) (by omega) (by omega) (by omega) ?_
    repeat' (first | (with_reducible refine G.joini0 ?_) | (with_reducible refine G.joini1 ?_) | (with_reducible refine G.drew ?_) | (simp (maxSteps := 2000000) only [↓RG, RP, true_and, and_true, beq_true, beq_false, Bool.true_beq, Bool.false_beq, BEq.rfl, Int.reduceEq, Int.reduceLT, Int.reduceLE, Nat.reduceEqDiff, decide_true, decide_false, Bool.not_true, Bool.not_false, Bool.and_true, Bool.true_and, Bool.and_false, Bool.false_and, Bool.or_true, Bool.true_or, Bool.or_false, Bool.false_or, Bool.not_not]))
    exact (hK ⟨within c.place 1 30, c.word⟩).sub

set_option maxHeartbeats 1000000 in
theorem s_law8_WritesWhole {most : Int} {l1 l2 : Value} {q1 q2 : List TCell} [a1 : Arg w0 l1 tCellE q1] [a2 : Arg w0 l2 tCellE q2] (hK : G w0 L (K (.bool true))) : G w0 L (CP Try.prog Fn.law8_WritesWhole [i64 most, l1, l2] K) := by
  refine C_law8_WritesWhole ?_
  unfold S_law8_WritesWhole
  refine s_law8_WritesRuns ?_
  try simp (maxSteps := 2000000) only [fuse_and, fuse_or, fuse_step, fuse_pair, fuse_in, andP_true]
  try simp (maxSteps := 2000000) only [↓RG, RP, true_and, and_true, beq_true, beq_false, Bool.true_beq, Bool.false_beq, BEq.rfl, Int.reduceEq, Int.reduceLT, Int.reduceLE, Nat.reduceEqDiff, decide_true, decide_false, Bool.not_true, Bool.not_false, Bool.and_true, Bool.true_and, Bool.and_false, Bool.false_and, Bool.or_true, Bool.true_or, Bool.or_false, Bool.false_or, Bool.not_not]
  refine s_writes_New fun x => ?_
  try simp (maxSteps := 2000000) only [↓RG, RP, true_and, and_true, beq_true, beq_false, Bool.true_beq, Bool.false_beq, BEq.rfl, Int.reduceEq, Int.reduceLT, Int.reduceLE, Nat.reduceEqDiff, decide_true, decide_false, Bool.not_true, Bool.not_false, Bool.and_true, Bool.true_and, Bool.and_false, Bool.false_and, Bool.or_true, Bool.true_or, Bool.or_false, Bool.false_or, Bool.not_not]
  refine s_writes_New fun y => ?_
  generalize held most 0 96 = m
  try simp (maxSteps := 2000000) only [↓RG, RP, true_and, and_true, beq_true, beq_false, Bool.true_beq, Bool.false_beq, BEq.rfl, Int.reduceEq, Int.reduceLT, Int.reduceLE, Nat.reduceEqDiff, decide_true, decide_false, Bool.not_true, Bool.not_false, Bool.and_true, Bool.true_and, Bool.and_false, Bool.false_and, Bool.or_true, Bool.true_or, Bool.or_false, Bool.false_or, Bool.not_not]
  refine G.loop1 (σ := Nat × List TCell) (fun z => i64 z.1) (fun z => ob WritesR y (m, z.2) :: ob WritesR x (m, z.2) :: L) (fun z => z.1 ≤ 30) (fun z => 30 - z.1) (0, []) rfl rfl (by simp) ?_
  rintro ⟨k, cs⟩ hk J hJ
  simp only at hk hJ ⊢
  try simp (maxSteps := 2000000) only [↓RG, RP, true_and, and_true, beq_true, beq_false, Bool.true_beq, Bool.false_beq, BEq.rfl, Int.reduceEq, Int.reduceLT, Int.reduceLE, Nat.reduceEqDiff, decide_true, decide_false, Bool.not_true, Bool.not_false, Bool.and_true, Bool.true_and, Bool.and_false, Bool.false_and, Bool.or_true, Bool.true_or, Bool.or_false, Bool.false_or, Bool.not_not]
  refine G.cond (fun h => ?_) (fun h => ?_)
  · have hk2 : k < q1.length ∧ k < 30 := by simp at h; omega
    obtain ⟨q, e⟩ : ∃ q, Elem q1 k q := ⟨_, elem_of hk2.1⟩
    try simp (maxSteps := 2000000) only [↓RG, RP, true_and, and_true, beq_true, beq_false, Bool.true_beq, Bool.false_beq, BEq.rfl, Int.reduceEq, Int.reduceLT, Int.reduceLE, Nat.reduceEqDiff, decide_true, decide_false, Bool.not_true, Bool.not_false, Bool.and_true, Bool.true_and, Bool.and_false, Bool.false_and, Bool.or_true, Bool.true_or, Bool.or_false, Bool.false_or, Bool.not_not]
    refine s_law8_near fun d => ?_
    refine G.new fun p => ?_
    repeat' (first | (with_reducible refine G.joini0 ?_) | (with_reducible refine G.joini1 ?_) | (with_reducible refine G.drew ?_) | (simp (maxSteps := 2000000) only [↓RG, RP, true_and, and_true, beq_true, beq_false, Bool.true_beq, Bool.false_beq, BEq.rfl, Int.reduceEq, Int.reduceLT, Int.reduceLE, Nat.reduceEqDiff, decide_true, decide_false, Bool.not_true, Bool.not_false, Bool.and_true, Bool.true_and, Bool.and_false, Bool.false_and, Bool.or_true, Bool.true_or, Bool.or_false, Bool.false_or, Bool.not_not]))
    refine s_writes_Writes_Put (b := x) (most := m) (cs := cs) ?_
    repeat' (first | (with_reducible refine G.joini0 ?_) | (with_reducible refine G.joini1 ?_) | (with_reducible refine G.drew ?_) | (simp (maxSteps := 2000000) only [↓RG, RP, true_and, and_true, beq_true, beq_false, Bool.true_beq, Bool.false_beq, BEq.rfl, Int.reduceEq, Int.reduceLT, Int.reduceLE, Nat.reduceEqDiff, decide_true, decide_false, Bool.not_true, Bool.not_false, Bool.and_true, Bool.true_and, Bool.and_false, Bool.false_and, Bool.or_true, Bool.true_or, Bool.or_false, Bool.false_or, Bool.not_not]))
    refine s_writes_Writes_Put (b := y) (most := m) (cs := cs) ?_
    repeat' (first | (with_reducible refine G.joini0 ?_) | (with_reducible refine G.joini1 ?_) | (with_reducible refine G.drew ?_) | (simp (maxSteps := 2000000) only [↓RG, RP, true_and, and_true, beq_true, beq_false, Bool.true_beq, Bool.false_beq, BEq.rfl, Int.reduceEq, Int.reduceLT, Int.reduceLE, Nat.reduceEqDiff, decide_true, decide_false, Bool.not_true, Bool.not_false, Bool.and_true, Bool.true_and, Bool.and_false, Bool.false_and, Bool.or_true, Bool.true_or, Bool.or_false, Bool.false_or, Bool.not_not]))
    rw [wsucc (by omega)]
    exact (hJ (k + 1, if wErr m cs d.place = 0 then putC cs d.place d.word else cs) hk2.2 (by simp; omega)).sub
  · refine G.okW (b := x) (most := m) (cs := cs) fun hw => ?_
    have b1 : (cs.length : Int) ≤ m := hw.len
    have b2 : m ≤ 96 := hw.hi
    refine s_writes_Writes_All (b := x) (most := m) (cs := cs) fun u0 hu0 => ?_
    refine G.nilsl tCellE ?_
    refine G.loop3 (σ := Value × List TCell × Nat) (fun z => z.1) (fun z => i64 (wPuts m cs z.2.1).2) (fun z => i64 z.2.2) (fun z => sl tCellE z.1 z.2.1 :: sl tCellE u0 cs :: ob WritesR y (m, (wPuts m cs z.2.1).1) :: ob WritesR x (m, cs) :: L) (fun z => z.2.2 ≤ 30 ∧ z.2.1.length = z.2.2 ∧ Cells z.1 [z.1]) (fun z => 30 - z.2.2) (.slice none 0 0, [], 0) rfl rfl rfl rfl ⟨by simp, rfl, cells_slice⟩ ?_
    rintro ⟨u, l, j⟩ ⟨hj, hl, hu⟩ J2 hJ2
    simp only at hj hl hu hJ2 ⊢
    try simp (maxSteps := 2000000) only [↓RG, RP, true_and, and_true, beq_true, beq_false, Bool.true_beq, Bool.false_beq, BEq.rfl, Int.reduceEq, Int.reduceLT, Int.reduceLE, Nat.reduceEqDiff, decide_true, decide_false, Bool.not_true, Bool.not_false, Bool.and_true, Bool.true_and, Bool.and_false, Bool.false_and, Bool.or_true, Bool.true_or, Bool.or_false, Bool.false_or, Bool.not_not]
    refine G.cond (fun h => ?_) (fun h => ?_)
    · have hj2 : j < q2.length ∧ j < 30 := by simp at h; omega
      obtain ⟨q, e⟩ : ∃ q, Elem q2 j q := ⟨_, elem_of hj2.1⟩
      try simp (maxSteps := 2000000) only [↓RG, RP, true_and, and_true, beq_true, beq_false, Bool.true_beq, Bool.false_beq, BEq.rfl, Int.reduceEq, Int.reduceLT, Int.reduceLE, Nat.reduceEqDiff, decide_true, decide_false, Bool.not_true, Bool.not_false, Bool.and_true, Bool.true_and, Bool.and_false, Bool.false_and, Bool.or_true, Bool.true_or, Bool.or_false, Bool.false_or, Bool.not_not]
      refine s_law8_near fun d => ?_
      refine G.append1 (E := tCellE) (a := d) rfl rfl (by decide) (by omega) (by simp only [maxLen]; omega) fun u2 hu2 => ?_
      have el : Elem (l ++ [d]) j d := ⟨by rw [← hl]; simp⟩
      have hs := wPuts_snoc (most := m) (cs := cs) (l := l) (d := d)
      have h := hJ2 (u2, l ++ [d], j + 1) ⟨hj2.2, by simp [hl], hu2⟩ (by simp; omega)
      simp only [hs] at h
      refine G.joini1 ?_
      by_cases he : (wPuts m cs l).2 = 0
      · rw [if_pos he] at h
        repeat' (first | (with_reducible refine G.joini0 ?_) | (with_reducible refine G.joini1 ?_) | (with_reducible refine G.drew ?_) | (simp (maxSteps := 2000000) only [↓RG, RP, true_and, and_true, beq_true, beq_false, Bool.true_beq, Bool.false_beq, BEq.rfl, Int.reduceEq, Int.reduceLT, Int.reduceLE, Nat.reduceEqDiff, decide_true, decide_false, Bool.not_true, Bool.not_false, Bool.and_true, Bool.true_and, Bool.and_false, Bool.false_and, Bool.or_true, Bool.true_or, Bool.or_false, Bool.false_or, Bool.not_not, he]))
        refine s_writes_Writes_Put (b := y) (most := m) (cs := (wPuts m cs l).1) ?_
        repeat' (first | (with_reducible refine G.joini0 ?_) | (with_reducible refine G.joini1 ?_) | (with_reducible refine G.drew ?_) | (simp (maxSteps := 2000000) only [↓RG, RP, true_and, and_true, beq_true, beq_false, Bool.true_beq, Bool.false_beq, BEq.rfl, Int.reduceEq, Int.reduceLT, Int.reduceLE, Nat.reduceEqDiff, decide_true, decide_false, Bool.not_true, Bool.not_false, Bool.and_true, Bool.true_and, Bool.and_false, Bool.false_and, Bool.or_true, Bool.true_or, Bool.or_false, Bool.false_or, Bool.not_not]))
        rw [wsucc (by omega)]
        exact h.sub
      · rw [if_neg he] at h
        repeat' (first | (with_reducible refine G.joini0 ?_) | (with_reducible refine G.joini1 ?_) | (with_reducible refine G.drew ?_) | (simp (maxSteps := 2000000) only [↓RG, RP, true_and, and_true, beq_true, beq_false, Bool.true_beq, Bool.false_beq, BEq.rfl, Int.reduceEq, Int.reduceLT, Int.reduceLE, Nat.reduceEqDiff, decide_true, decide_false, Bool.not_true, Bool.not_false, Bool.and_true, Bool.true_and, Bool.and_false, Bool.false_and, Bool.or_true, Bool.true_or, Bool.or_false, Bool.false_or, Bool.not_not, he]))
        rw [wsucc (by omega)]
        exact h.sub
    · refine s_writes_Writes_Take (b := x) (most := m) (cs := cs) (l := l) (by omega) ?_
      rw [wTake_err]
      by_cases he : (wPuts m cs l).2 = 0
      · have e2 : (wTake m cs l).1 = (wPuts m cs l).1 := by unfold wTake; rw [if_pos he]
        rw [e2]
        refine G.okW (b := x) (most := m) (cs := (wPuts m cs l).1) fun hw2 => ?_
        have b3 : ((wPuts m cs l).1.length : Int) ≤ m := hw2.len
        try simp (maxSteps := 2000000) only [↓RG, RP, true_and, and_true, beq_true, beq_false, Bool.true_beq, Bool.false_beq, BEq.rfl, Int.reduceEq, Int.reduceLT, Int.reduceLE, Nat.reduceEqDiff, decide_true, decide_false, Bool.not_true, Bool.not_false, Bool.and_true, Bool.true_and, Bool.and_false, Bool.false_and, Bool.or_true, Bool.true_or, Bool.or_false, Bool.false_or, Bool.not_not, he]
        refine s_writes_Writes_All (b := x) (most := m) (cs := (wPuts m cs l).1) fun u3 hu3 => ?_
        refine s_writes_Writes_All (b := y) (most := m) (cs := (wPuts m cs l).1) fun u4 hu4 => ?_
        refine s_book_Same_api_Cell (xs := (wPuts m cs l).1) (ys := (wPuts m cs l).1) (by omega) ?_
        try simp (maxSteps := 2000000) only [↓RG, RP, true_and, and_true, beq_true, beq_false, Bool.true_beq, Bool.false_beq, BEq.rfl, Int.reduceEq, Int.reduceLT, Int.reduceLE, Nat.reduceEqDiff, decide_true, decide_false, Bool.not_true, Bool.not_false, Bool.and_true, Bool.true_and, Bool.and_false, Bool.false_and, Bool.or_true, Bool.true_or, Bool.or_false, Bool.false_or, Bool.not_not]
        exact hK.sub
      · have e2 : (wTake m cs l).1 = cs := by unfold wTake; rw [if_neg he]
        rw [e2]
        try simp (maxSteps := 2000000) only [↓RG, RP, true_and, and_true, beq_true, beq_false, Bool.true_beq, Bool.false_beq, BEq.rfl, Int.reduceEq, Int.reduceLT, Int.reduceLE, Nat.reduceEqDiff, decide_true, decide_false, Bool.not_true, Bool.not_false, Bool.and_true, Bool.true_and, Bool.and_false, Bool.false_and, Bool.or_true, Bool.true_or, Bool.or_false, Bool.false_or, Bool.not_not, he]
        refine s_writes_Writes_All (b := x) (most := m) (cs := cs) fun u3 hu3 => ?_
        refine s_book_Same_api_Cell (xs := cs) (ys := cs) (by omega) ?_
        try simp (maxSteps := 2000000) only [↓RG, RP, true_and, and_true, beq_true, beq_false, Bool.true_beq, Bool.false_beq, BEq.rfl, Int.reduceEq, Int.reduceLT, Int.reduceLE, Nat.reduceEqDiff, decide_true, decide_false, Bool.not_true, Bool.not_false, Bool.and_true, Bool.true_and, Bool.and_false, Bool.false_and, Bool.or_true, Bool.true_or, Bool.or_false, Bool.false_or, Bool.not_not]
        exact hK.sub

/-- taken into a row of cells -/
theorem s_law8_take {v cv : Value} {l : List TCell} {most : Int} [i : SelSl L v tCellE cs C] [r : ∀ A, Rd w0 (C A) cv tCellE 2 l] (hv : Cells v [v]) (hcs : cs.length ≤ 100000) (hl : l.length ≤ 100000)
    (hK : ∀ u, Cells u [u] → G w0 (C (sl tCellE u (wTake most cs l).1)) (K (.tuple #[u, i64 (wTake most cs l).2]))) : G w0 L (CP Try.prog Fn.law8_take [v, cv, i64 most] K) := by
  refine i.sel.useNM (P := fun u => Cells u [u]) (N := fun _ => emp) (A' := fun u => sl tCellE u (wTake most cs l).1) (F' := fun u => K (.tuple #[u, i64 (wTake most cs l).2])) (fun M hM hM2 => ?_) (fun u hu => by rw [G_emp]; exact hK u hu)
  simp only [G_emp] at hM2
  have r' := Rd.frame hM r
  refine C_law8_take ?_
  unfold S_law8_take
  try simp (maxSteps := 2000000) only [↓RG, RP, true_and, and_true, beq_true, beq_false, Bool.true_beq, Bool.false_beq, BEq.rfl, Int.reduceEq, Int.reduceLT, Int.reduceLE, Nat.reduceEqDiff, decide_true, decide_false, Bool.not_true, Bool.not_false, Bool.and_true, Bool.true_and, Bool.and_false, Bool.false_and, Bool.or_true, Bool.true_or, Bool.or_false, Bool.false_or, Bool.not_not]
  refine G.loop2 (σ := Value × List TCell × Nat) (fun z => z.1) (fun z => i64 z.2.2) (fun z => (if z.2.2 = 0 then emp else sl tCellE z.1 z.2.1) :: sl tCellE v cs :: M)
    (fun z => z.2.2 ≤ l.length ∧ z.2.1.length ≤ cs.length + z.2.2 ∧ Cells z.1 [z.1] ∧ wPuts most cs l = wPuts most z.2.1 (l.drop z.2.2) ∧ (z.2.2 = 0 → z.1 = v ∧ z.2.1 = cs)) (fun z => l.length - z.2.2) (v, cs, 0) rfl rfl (by funext F; simp [G_emp]) ⟨by simp, by simp, hv, by simp, by simp⟩ ?_
  rintro ⟨u, z, k⟩ ⟨hk, hz, hu, hp, h0⟩ J hJ
  simp only at hk hz hu hp h0 hJ ⊢
  obtain ⟨X, hX⟩ : ∃ X : Asn, X = if k = 0 then emp else sl tCellE u z := ⟨_, rfl⟩
  have rz : Rd w0 (X :: sl tCellE v cs :: M) u tCellE 2 z := by
    by_cases hk0 : k = 0
    · obtain ⟨rfl, rfl⟩ := h0 hk0; exact Rd.tl (h := Rd.sl)
    · subst hX; rw [if_neg hk0]; exact Rd.sl
  rw [← hX]
  try simp (maxSteps := 2000000) only [↓RG, RP, true_and, and_true, beq_true, beq_false, Bool.true_beq, Bool.false_beq, BEq.rfl, Int.reduceEq, Int.reduceLT, Int.reduceLE, Nat.reduceEqDiff, decide_true, decide_false, Bool.not_true, Bool.not_false, Bool.and_true, Bool.true_and, Bool.and_false, Bool.false_and, Bool.or_true, Bool.true_or, Bool.or_false, Bool.false_or, Bool.not_not]
  refine G.cond (fun h => ?_) (fun h => ?_)
  · have hk2 : k < l.length := by simpa using h
    have e := elem_of hk2
    obtain ⟨p1, p2⟩ := wPuts_drop hk2 hp
    have bad : ∀ e : Int, e ≠ 0 → wErr most z l[k].place = e → G w0 (X :: sl tCellE v cs :: M) (K (.tuple #[v, i64 e])) := fun e he hw => by
      have h4 : wTake most cs l = (cs, e) := by unfold wTake; rw [p2 (by omega), hw]; simp [he]
      have h := hM2 v hv
      rw [h4] at h
      exact h.sub
    have next : wErr most z l[k].place = 0 → ∀ y, Cells y [y] → G w0 (sl tCellE y (putC z l[k].place l[k].word) :: X :: sl tCellE v cs :: M) (J y (i64 ((k + 1 : Nat) : Int))) := fun hw y hy => by
      have hle := putC_le (cs := z) (a := l[k].place) (x := l[k].word)
      have h := hJ (y, putC z l[k].place l[k].word, k + 1) ⟨hk2, by simp only; omega, hy, p1 hw, by simp⟩ (by simp; omega)
      simp only [Nat.add_one_ne_zero, if_false] at h
      exact h.sub
    by_cases g1 : l[k].place < 1
    · have h2 : wErr most z l[k].place = 2 := by unfold wErr; rw [if_neg]; rw [okAt_iff]; omega
      try simp (maxSteps := 2000000) only [↓RG, RP, true_and, and_true, beq_true, beq_false, Bool.true_beq, Bool.false_beq, BEq.rfl, Int.reduceEq, Int.reduceLT, Int.reduceLE, Nat.reduceEqDiff, decide_true, decide_false, Bool.not_true, Bool.not_false, Bool.and_true, Bool.true_and, Bool.and_false, Bool.false_and, Bool.or_true, Bool.true_or, Bool.or_false, Bool.false_or, Bool.not_not, g1]
      exact bad 2 (by decide) h2
    by_cases g2 : 256 ≤ l[k].place
    · have h2 : wErr most z l[k].place = 2 := by unfold wErr; rw [if_neg]; rw [okAt_iff]; omega
      try simp (maxSteps := 2000000) only [↓RG, RP, true_and, and_true, beq_true, beq_false, Bool.true_beq, Bool.false_beq, BEq.rfl, Int.reduceEq, Int.reduceLT, Int.reduceLE, Nat.reduceEqDiff, decide_true, decide_false, Bool.not_true, Bool.not_false, Bool.and_true, Bool.true_and, Bool.and_false, Bool.false_and, Bool.or_true, Bool.true_or, Bool.or_false, Bool.false_or, Bool.not_not, g1, g2]
      exact bad 2 (by decide) h2
    have ha : okAt l[k].place = true := by rw [okAt_iff]; omega
    try simp (maxSteps := 2000000) only [↓RG, RP, true_and, and_true, beq_true, beq_false, Bool.true_beq, Bool.false_beq, BEq.rfl, Int.reduceEq, Int.reduceLT, Int.reduceLE, Nat.reduceEqDiff, decide_true, decide_false, Bool.not_true, Bool.not_false, Bool.and_true, Bool.true_and, Bool.and_false, Bool.false_and, Bool.or_true, Bool.true_or, Bool.or_false, Bool.false_or, Bool.not_not, g1, g2]
    refine s_ref7_Place (cs := z) (by omega) ?_
    cases hi : idxC z l[k].place with
    | none =>
      rw [idxI_none hi]
      by_cases hm : most ≤ z.length
      · have h2 : wErr most z l[k].place = 5 := by unfold wErr; rw [if_pos ha, hi]; simp [hm]
        try simp (maxSteps := 2000000) only [↓RG, RP, true_and, and_true, beq_true, beq_false, Bool.true_beq, Bool.false_beq, BEq.rfl, Int.reduceEq, Int.reduceLT, Int.reduceLE, Nat.reduceEqDiff, decide_true, decide_false, Bool.not_true, Bool.not_false, Bool.and_true, Bool.true_and, Bool.and_false, Bool.false_and, Bool.or_true, Bool.true_or, Bool.or_false, Bool.false_or, Bool.not_not, hm]
        exact bad 5 (by decide) h2
      · have h2 : wErr most z l[k].place = 0 := by unfold wErr; rw [if_pos ha, hi]; simp [hm]
        repeat' (first | (with_reducible refine G.joini0 ?_) | (with_reducible refine G.joini1 ?_) | (with_reducible refine G.drew ?_) | (simp (maxSteps := 2000000) only [↓RG, RP, true_and, and_true, beq_true, beq_false, Bool.true_beq, Bool.false_beq, BEq.rfl, Int.reduceEq, Int.reduceLT, Int.reduceLE, Nat.reduceEqDiff, decide_true, decide_false, Bool.not_true, Bool.not_false, Bool.and_true, Bool.true_and, Bool.and_false, Bool.false_and, Bool.or_true, Bool.true_or, Bool.or_false, Bool.false_or, Bool.not_not, hm]))
        refine s_ref7_Put (cs := z) (by omega) fun y hy => ?_
        repeat' (first | (with_reducible refine G.joini0 ?_) | (with_reducible refine G.joini1 ?_) | (with_reducible refine G.drew ?_) | (simp (maxSteps := 2000000) only [↓RG, RP, true_and, and_true, beq_true, beq_false, Bool.true_beq, Bool.false_beq, BEq.rfl, Int.reduceEq, Int.reduceLT, Int.reduceLE, Nat.reduceEqDiff, decide_true, decide_false, Bool.not_true, Bool.not_false, Bool.and_true, Bool.true_and, Bool.and_false, Bool.false_and, Bool.or_true, Bool.true_or, Bool.or_false, Bool.false_or, Bool.not_not]))
        rw [wsucc (by omega)]
        exact next h2 y hy
    | some j =>
      have h2 : wErr most z l[k].place = 0 := by unfold wErr; rw [if_pos ha, hi]; simp
      have h5 : ¬ (j : Int) < 0 := by omega
      rw [idxI_some hi]
      repeat' (first | (with_reducible refine G.joini0 ?_) | (with_reducible refine G.joini1 ?_) | (with_reducible refine G.drew ?_) | (simp (maxSteps := 2000000) only [↓RG, RP, true_and, and_true, beq_true, beq_false, Bool.true_beq, Bool.false_beq, BEq.rfl, Int.reduceEq, Int.reduceLT, Int.reduceLE, Nat.reduceEqDiff, decide_true, decide_false, Bool.not_true, Bool.not_false, Bool.and_true, Bool.true_and, Bool.and_false, Bool.false_and, Bool.or_true, Bool.true_or, Bool.or_false, Bool.false_or, Bool.not_not, h5]))
      refine s_ref7_Put (cs := z) (by omega) fun y hy => ?_
      repeat' (first | (with_reducible refine G.joini0 ?_) | (with_reducible refine G.joini1 ?_) | (with_reducible refine G.drew ?_) | (simp (maxSteps := 2000000) only [↓RG, RP, true_and, and_true, beq_true, beq_false, Bool.true_beq, Bool.false_beq, BEq.rfl, Int.reduceEq, Int.reduceLT, Int.reduceLE, Nat.reduceEqDiff, decide_true, decide_false, Bool.not_true, Bool.not_false, Bool.and_true, Bool.true_and, Bool.and_false, Bool.false_and, Bool.or_true, Bool.true_or, Bool.or_false, Bool.false_or, Bool.not_not]))
      rw [wsucc (by omega)]
      exact next h2 y hy
  · have hkl : k = l.length := by simp at h; omega
    have : l.drop k = [] := List.drop_eq_nil_of_le (by omega)
    rw [this] at hp
    have h4 : wTake most cs l = (z, 0) := by
      unfold wTake; rw [hp]; simp [wPuts]
    rw [h4] at hM2
    by_cases hk0 : k = 0
    · obtain ⟨rfl, rfl⟩ := h0 hk0; exact (hM2 _ hu).sub
    · subst hX; rw [if_neg hk0]; exact (hM2 _ hu).sub

theorem wTake_len {most : Int} {cs l : List TCell} (h : OkW most cs) : (wTake most cs l).1.length ≤ 96 := by
  have := h.take (l := l)
  have h1 : ((wTake most cs l).1.length : Int) ≤ most := this.len
  have h2 : most ≤ 96 := this.hi
  omega

theorem wTake_one {most : Int} {cs : List TCell} {c : TCell} : wTake most cs [c] = (if wErr most cs c.place = 0 then putC cs c.place c.word else cs, wErr most cs c.place) := by
  unfold wTake
  rw [wPuts_cons]
  by_cases h : wErr most cs c.place = 0
  · simp [h, wPuts]
  · simp [h]

set_option maxHeartbeats 2000000 in
theorem s_law8_WritesPlays {most : Int} {l : Value} {qs : List AskWrites} [a : Arg w0 l askWritesE qs] (hq1 : ∀ q ∈ qs, AskWrites.Q w0 q) (hK : G w0 L (K (.bool true))) : G w0 L (CP Try.prog Fn.law8_WritesPlays [i64 most, l] K) := by
  refine C_law8_WritesPlays ?_
  unfold S_law8_WritesPlays
  refine s_law8_WritesRuns ?_
  try simp (maxSteps := 2000000) only [fuse_and, fuse_or, fuse_step, fuse_pair, fuse_in, andP_true]
  try simp (maxSteps := 2000000) only [↓RG, RP, true_and, and_true, beq_true, beq_false, Bool.true_beq, Bool.false_beq, BEq.rfl, Int.reduceEq, Int.reduceLT, Int.reduceLE, Nat.reduceEqDiff, decide_true, decide_false, Bool.not_true, Bool.not_false, Bool.and_true, Bool.true_and, Bool.and_false, Bool.false_and, Bool.or_true, Bool.true_or, Bool.or_false, Bool.false_or, Bool.not_not]
  refine s_writes_New fun b => ?_
  try simp (maxSteps := 2000000) only [↓RG, RP, true_and, and_true, beq_true, beq_false, Bool.true_beq, Bool.false_beq, BEq.rfl, Int.reduceEq, Int.reduceLT, Int.reduceLE, Nat.reduceEqDiff, decide_true, decide_false, Bool.not_true, Bool.not_false, Bool.and_true, Bool.true_and, Bool.and_false, Bool.false_and, Bool.or_true, Bool.true_or, Bool.or_false, Bool.false_or, Bool.not_not]
  refine s_book_Clamp ?_
  generalize held most 0 96 = m
  refine G.nilsl tCellE ?_
  refine G.loop2 (σ := Value × List TCell × Nat) (fun z => z.1) (fun z => i64 z.2.2) (fun z => sl tCellE z.1 z.2.1 :: ob WritesR b (m, z.2.1) :: L) (fun z => z.2.2 ≤ 40 ∧ Cells z.1 [z.1]) (fun z => 40 - z.2.2) (.slice none 0 0, [], 0) rfl rfl rfl ⟨by simp, cells_slice⟩ ?_
  rintro ⟨u, cs, k⟩ ⟨hk, hu⟩ J hJ
  simp only at hk hu hJ ⊢
  refine G.okW (b := b) (most := m) (cs := cs) fun hw => ?_
  have b1 : (cs.length : Int) ≤ m := hw.len
  have b2 : m ≤ 96 := hw.hi
  try simp (maxSteps := 2000000) only [↓RG, RP, true_and, and_true, beq_true, beq_false, Bool.true_beq, Bool.false_beq, BEq.rfl, Int.reduceEq, Int.reduceLT, Int.reduceLE, Nat.reduceEqDiff, decide_true, decide_false, Bool.not_true, Bool.not_false, Bool.and_true, Bool.true_and, Bool.and_false, Bool.false_and, Bool.or_true, Bool.true_or, Bool.or_false, Bool.false_or, Bool.not_not]
  refine G.cond (fun h => ?_) (fun h => hK.sub)
  have hk2 : k < qs.length ∧ k < 40 := by simp at h; omega
  obtain ⟨q, e⟩ : ∃ q, Elem qs k q := ⟨_, elem_of hk2.1⟩
  obtain ⟨ys, hy⟩ := hq1 q (List.mem_of_getElem? e.eq)
  try simp (maxSteps := 2000000) only [↓RG, RP, true_and, and_true, beq_true, beq_false, Bool.true_beq, Bool.false_beq, BEq.rfl, Int.reduceEq, Int.reduceLT, Int.reduceLE, Nat.reduceEqDiff, decide_true, decide_false, Bool.not_true, Bool.not_false, Bool.and_true, Bool.true_and, Bool.and_false, Bool.false_and, Bool.or_true, Bool.true_or, Bool.or_false, Bool.false_or, Bool.not_not]
  refine G.new fun p => ?_
  try simp (maxSteps := 2000000) only [↓RG, RP, true_and, and_true, beq_true, beq_false, Bool.true_beq, Bool.false_beq, BEq.rfl, Int.reduceEq, Int.reduceLT, Int.reduceLE, Nat.reduceEqDiff, decide_true, decide_false, Bool.not_true, Bool.not_false, Bool.and_true, Bool.true_and, Bool.and_false, Bool.false_and, Bool.or_true, Bool.true_or, Bool.or_false, Bool.false_or, Bool.not_not]
  have fin : ∀ (v2 : Value) (c : List TCell), Cells v2 [v2] → G w0 (sl tCellE v2 (wTake m cs c).1 :: ob WritesR b (m, (wTake m cs c).1) :: L) (J v2 (i64 ((k + 1 : Nat) : Int))) := fun v2 c hv2 => hJ (v2, (wTake m cs c).1, k + 1) ⟨hk2.2, hv2⟩ (by simp; omega)
  have okt : ∀ c, OkW m (wTake m cs c).1 := fun c => hw.take
  refine G.joini1 ?_
  cases ht : q.take
  case' true =>
    try simp (maxSteps := 2000000) only [↓RG, RP, true_and, and_true, beq_true, beq_false, Bool.true_beq, Bool.false_beq, BEq.rfl, Int.reduceEq, Int.reduceLT, Int.reduceLE, Nat.reduceEqDiff, decide_true, decide_false, Bool.not_true, Bool.not_false, Bool.and_true, Bool.true_and, Bool.and_false, Bool.false_and, Bool.or_true, Bool.true_or, Bool.or_false, Bool.false_or, Bool.not_not, ht]
    refine G.nilsl tCellE ?_
    refine G.loop2 (σ := Value × List TCell × Nat) (fun z => z.1) (fun z => i64 z.2.2) (fun z => sl tCellE z.1 z.2.1 :: own p [.bool true, i64 q.c.place, u64 q.c.word, .slice q.l.a q.l.n q.l.c] :: sl tCellE u cs :: ob WritesR b (m, cs) :: L) (fun z => z.2.2 ≤ 12 ∧ z.2.1.length = z.2.2 ∧ Cells z.1 [z.1]) (fun z => 12 - z.2.2) (.slice none 0 0, [], 0) rfl rfl rfl ⟨by simp, rfl, cells_slice⟩ ?_
    rintro ⟨uc, c, j⟩ ⟨hj, hc, huc⟩ J2 hJ2
    simp only at hj hc huc hJ2 ⊢
    try simp (maxSteps := 2000000) only [↓RG, RP, true_and, and_true, beq_true, beq_false, Bool.true_beq, Bool.false_beq, BEq.rfl, Int.reduceEq, Int.reduceLT, Int.reduceLE, Nat.reduceEqDiff, decide_true, decide_false, Bool.not_true, Bool.not_false, Bool.and_true, Bool.true_and, Bool.and_false, Bool.false_and, Bool.or_true, Bool.true_or, Bool.or_false, Bool.false_or, Bool.not_not]
    refine G.cond (fun h => ?_) (fun h => ?_)
    · have hj2 : j < ys.length ∧ j < 12 := by simp at h; omega
      obtain ⟨r, e2⟩ : ∃ r, Elem ys j r := ⟨_, elem_of hj2.1⟩
      have w1 : IntKind.wrap .i64 ((k : Int) + j) = ((k + j : Nat) : Int) := by rw [wi64 (by omega) (by omega)]; omega
      repeat' (first | (with_reducible refine G.joini0 ?_) | (with_reducible refine G.joini1 ?_) | (with_reducible refine G.drew ?_) | (simp (maxSteps := 2000000) only [↓RG, RP, true_and, and_true, beq_true, beq_false, Bool.true_beq, Bool.false_beq, BEq.rfl, Int.reduceEq, Int.reduceLT, Int.reduceLE, Nat.reduceEqDiff, decide_true, decide_false, Bool.not_true, Bool.not_false, Bool.and_true, Bool.true_and, Bool.and_false, Bool.false_and, Bool.or_true, Bool.true_or, Bool.or_false, Bool.false_or, Bool.not_not]))
      rw [w1]
      refine s_law8_near (c := r) fun d => ?_
      refine G.append1 (E := tCellE) (a := d) rfl rfl (by decide) (by omega) (by simp only [maxLen]; omega) fun y hy => ?_
      repeat' (first | (with_reducible refine G.joini0 ?_) | (with_reducible refine G.joini1 ?_) | (with_reducible refine G.drew ?_) | (simp (maxSteps := 2000000) only [↓RG, RP, true_and, and_true, beq_true, beq_false, Bool.true_beq, Bool.false_beq, BEq.rfl, Int.reduceEq, Int.reduceLT, Int.reduceLE, Nat.reduceEqDiff, decide_true, decide_false, Bool.not_true, Bool.not_false, Bool.and_true, Bool.true_and, Bool.and_false, Bool.false_and, Bool.or_true, Bool.true_or, Bool.or_false, Bool.false_or, Bool.not_not]))
      rw [wsucc (by omega)]
      exact (hJ2 (y, c ++ [d], j + 1) ⟨hj2.2, by simp [hc], hy⟩ (by simp; omega)).sub
    refine s_law8_take (cs := cs) (l := c) hu (by omega) (by omega) fun v2 hv2 => ?_
    have f2 := fin v2 c hv2
    have o2 := okt c
    repeat' (first | (with_reducible refine G.joini0 ?_) | (with_reducible refine G.joini1 ?_) | (with_reducible refine G.drew ?_) | (simp (maxSteps := 2000000) only [↓RG, RP, true_and, and_true, beq_true, beq_false, Bool.true_beq, Bool.false_beq, BEq.rfl, Int.reduceEq, Int.reduceLT, Int.reduceLE, Nat.reduceEqDiff, decide_true, decide_false, Bool.not_true, Bool.not_false, Bool.and_true, Bool.true_and, Bool.and_false, Bool.false_and, Bool.or_true, Bool.true_or, Bool.or_false, Bool.false_or, Bool.not_not]))
    refine s_writes_Writes_Take (b := b) (most := m) (cs := cs) (l := c) (by omega) ?_
    generalize (wTake m cs c).1 = cs2 at f2 o2 ⊢
    repeat' (first | (with_reducible refine G.joini0 ?_) | (with_reducible refine G.joini1 ?_) | (with_reducible refine G.drew ?_) | (simp (maxSteps := 2000000) only [↓RG, RP, true_and, and_true, beq_true, beq_false, Bool.true_beq, Bool.false_beq, BEq.rfl, Int.reduceEq, Int.reduceLT, Int.reduceLE, Nat.reduceEqDiff, decide_true, decide_false, Bool.not_true, Bool.not_false, Bool.and_true, Bool.true_and, Bool.and_false, Bool.false_and, Bool.or_true, Bool.true_or, Bool.or_false, Bool.false_or, Bool.not_not]))
  case' false =>
    try simp (maxSteps := 2000000) only [↓RG, RP, true_and, and_true, beq_true, beq_false, Bool.true_beq, Bool.false_beq, BEq.rfl, Int.reduceEq, Int.reduceLT, Int.reduceLE, Nat.reduceEqDiff, decide_true, decide_false, Bool.not_true, Bool.not_false, Bool.and_true, Bool.true_and, Bool.and_false, Bool.false_and, Bool.or_true, Bool.true_or, Bool.or_false, Bool.false_or, Bool.not_not, ht]
    refine s_law8_near (c := q.c) fun d => ?_
    refine G.nilsl tCellE ?_
    refine G.append1 (E := tCellE) (a := d) rfl rfl (by decide) (by simp) (by simp [maxLen]) fun y hy => ?_
    rw [List.nil_append]
    try simp (maxSteps := 2000000) only [↓RG, RP, true_and, and_true, beq_true, beq_false, Bool.true_beq, Bool.false_beq, BEq.rfl, Int.reduceEq, Int.reduceLT, Int.reduceLE, Nat.reduceEqDiff, decide_true, decide_false, Bool.not_true, Bool.not_false, Bool.and_true, Bool.true_and, Bool.and_false, Bool.false_and, Bool.or_true, Bool.true_or, Bool.or_false, Bool.false_or, Bool.not_not]
    refine G.loopc2 (σ := Unit) (fun _ => y) (fun _ => i64 0) (fun _ => True) (fun _ => 0) () rfl rfl trivial ?_
    intro _ _ J2 hJ2
    try simp (maxSteps := 2000000) only [↓RG, RP, true_and, and_true, beq_true, beq_false, Bool.true_beq, Bool.false_beq, BEq.rfl, Int.reduceEq, Int.reduceLT, Int.reduceLE, Nat.reduceEqDiff, decide_true, decide_false, Bool.not_true, Bool.not_false, Bool.and_true, Bool.true_and, Bool.and_false, Bool.false_and, Bool.or_true, Bool.true_or, Bool.or_false, Bool.false_or, Bool.not_not]
    refine s_law8_take (cs := cs) (l := [d]) hu (by omega) (by simp) fun v2 hv2 => ?_
    have f2 := fin v2 [d] hv2
    have o2 := okt [d]
    rw [wTake_one] at f2 o2 ⊢
    repeat' (first | (with_reducible refine G.joini0 ?_) | (with_reducible refine G.joini1 ?_) | (with_reducible refine G.drew ?_) | (simp (maxSteps := 2000000) only [↓RG, RP, true_and, and_true, beq_true, beq_false, Bool.true_beq, Bool.false_beq, BEq.rfl, Int.reduceEq, Int.reduceLT, Int.reduceLE, Nat.reduceEqDiff, decide_true, decide_false, Bool.not_true, Bool.not_false, Bool.and_true, Bool.true_and, Bool.and_false, Bool.false_and, Bool.or_true, Bool.true_or, Bool.or_false, Bool.false_or, Bool.not_not]))
    refine s_writes_Writes_Put (b := b) (most := m) (cs := cs) ?_
    generalize (if wErr m cs d.place = 0 then putC cs d.place d.word else cs) = cs2 at f2 o2 ⊢
    repeat' (first | (with_reducible refine G.joini0 ?_) | (with_reducible refine G.joini1 ?_) | (with_reducible refine G.drew ?_) | (simp (maxSteps := 2000000) only [↓RG, RP, true_and, and_true, beq_true, beq_false, Bool.true_beq, Bool.false_beq, BEq.rfl, Int.reduceEq, Int.reduceLT, Int.reduceLE, Nat.reduceEqDiff, decide_true, decide_false, Bool.not_true, Bool.not_false, Bool.and_true, Bool.true_and, Bool.and_false, Bool.false_and, Bool.or_true, Bool.true_or, Bool.or_false, Bool.false_or, Bool.not_not]))
  all_goals
    have b3 : (cs2.length : Int) ≤ m := o2.len
    refine s_law8_near (c := q.c) fun d2 => ?_
    repeat' (first | (with_reducible refine G.joini0 ?_) | (with_reducible refine G.joini1 ?_) | (with_reducible refine G.drew ?_) | (simp (maxSteps := 2000000) only [↓RG, RP, true_and, and_true, beq_true, beq_false, Bool.true_beq, Bool.false_beq, BEq.rfl, Int.reduceEq, Int.reduceLT, Int.reduceLE, Nat.reduceEqDiff, decide_true, decide_false, Bool.not_true, Bool.not_false, Bool.and_true, Bool.true_and, Bool.and_false, Bool.false_and, Bool.or_true, Bool.true_or, Bool.or_false, Bool.false_or, Bool.not_not]))
    refine s_writes_Writes_Get (b := b) (most := m) (cs := cs2) ?_
    unfold lookV
    cases hi : idxC cs2 d2.place with
    | none =>
      have hl := (idxC_none hi).2.1
      rw [hl]
      repeat' (first | (with_reducible refine G.joini0 ?_) | (with_reducible refine G.joini1 ?_) | (with_reducible refine G.drew ?_) | (simp (maxSteps := 2000000) only [↓RG, RP, true_and, and_true, beq_true, beq_false, Bool.true_beq, Bool.false_beq, BEq.rfl, Int.reduceEq, Int.reduceLT, Int.reduceLE, Nat.reduceEqDiff, decide_true, decide_false, Bool.not_true, Bool.not_false, Bool.and_true, Bool.true_and, Bool.and_false, Bool.false_and, Bool.or_true, Bool.true_or, Bool.or_false, Bool.false_or, Bool.not_not]))
      refine s_ref7_Place (cs := cs2) (by omega) ?_
      rw [idxI_none hi]
      repeat' (first | (with_reducible refine G.joini0 ?_) | (with_reducible refine G.joini1 ?_) | (with_reducible refine G.drew ?_) | (simp (maxSteps := 2000000) only [↓RG, RP, true_and, and_true, beq_true, beq_false, Bool.true_beq, Bool.false_beq, BEq.rfl, Int.reduceEq, Int.reduceLT, Int.reduceLE, Nat.reduceEqDiff, decide_true, decide_false, Bool.not_true, Bool.not_false, Bool.and_true, Bool.true_and, Bool.and_false, Bool.false_and, Bool.or_true, Bool.true_or, Bool.or_false, Bool.false_or, Bool.not_not]))
      refine s_writes_Writes_All (b := b) (most := m) (cs := cs2) fun u3 hu3 => ?_
      repeat' (first | (with_reducible refine G.joini0 ?_) | (with_reducible refine G.joini1 ?_) | (with_reducible refine G.drew ?_) | (simp (maxSteps := 2000000) only [↓RG, RP, true_and, and_true, beq_true, beq_false, Bool.true_beq, Bool.false_beq, BEq.rfl, Int.reduceEq, Int.reduceLT, Int.reduceLE, Nat.reduceEqDiff, decide_true, decide_false, Bool.not_true, Bool.not_false, Bool.and_true, Bool.true_and, Bool.and_false, Bool.false_and, Bool.or_true, Bool.true_or, Bool.or_false, Bool.false_or, Bool.not_not]))
      refine s_book_Same_api_Cell (xs := cs2) (ys := cs2) (by omega) ?_
      repeat' (first | (with_reducible refine G.joini0 ?_) | (with_reducible refine G.joini1 ?_) | (with_reducible refine G.drew ?_) | (simp (maxSteps := 2000000) only [↓RG, RP, true_and, and_true, beq_true, beq_false, Bool.true_beq, Bool.false_beq, BEq.rfl, Int.reduceEq, Int.reduceLT, Int.reduceLE, Nat.reduceEqDiff, decide_true, decide_false, Bool.not_true, Bool.not_false, Bool.and_true, Bool.true_and, Bool.and_false, Bool.false_and, Bool.or_true, Bool.true_or, Bool.or_false, Bool.false_or, Bool.not_not]))
      refine s_writes_Writes_Len (b := b) (most := m) (cs := cs2) ?_
      repeat' (first | (with_reducible refine G.joini0 ?_) | (with_reducible refine G.joini1 ?_) | (with_reducible refine G.drew ?_) | (simp (maxSteps := 2000000) only [↓RG, RP, true_and, and_true, beq_true, beq_false, Bool.true_beq, Bool.false_beq, BEq.rfl, Int.reduceEq, Int.reduceLT, Int.reduceLE, Nat.reduceEqDiff, decide_true, decide_false, Bool.not_true, Bool.not_false, Bool.and_true, Bool.true_and, Bool.and_false, Bool.false_and, Bool.or_true, Bool.true_or, Bool.or_false, Bool.false_or, Bool.not_not]))
      rw [wsucc (by omega)]
      exact f2.sub
    | some i =>
      obtain ⟨h1, h2, h3, hl⟩ := idxC_some hi
      have e3 := elem_of h1
      have h5 : (0 : Int) ≤ (i : Int) := by omega
      rw [hl]
      repeat' (first | (with_reducible refine G.joini0 ?_) | (with_reducible refine G.joini1 ?_) | (with_reducible refine G.drew ?_) | (simp (maxSteps := 2000000) only [↓RG, RP, true_and, and_true, beq_true, beq_false, Bool.true_beq, Bool.false_beq, BEq.rfl, Int.reduceEq, Int.reduceLT, Int.reduceLE, Nat.reduceEqDiff, decide_true, decide_false, Bool.not_true, Bool.not_false, Bool.and_true, Bool.true_and, Bool.and_false, Bool.false_and, Bool.or_true, Bool.true_or, Bool.or_false, Bool.false_or, Bool.not_not]))
      refine s_ref7_Place (cs := cs2) (by omega) ?_
      rw [idxI_some hi]
      repeat' (first | (with_reducible refine G.joini0 ?_) | (with_reducible refine G.joini1 ?_) | (with_reducible refine G.drew ?_) | (simp (maxSteps := 2000000) only [↓RG, RP, true_and, and_true, beq_true, beq_false, Bool.true_beq, Bool.false_beq, BEq.rfl, Int.reduceEq, Int.reduceLT, Int.reduceLE, Nat.reduceEqDiff, decide_true, decide_false, Bool.not_true, Bool.not_false, Bool.and_true, Bool.true_and, Bool.and_false, Bool.false_and, Bool.or_true, Bool.true_or, Bool.or_false, Bool.false_or, Bool.not_not, h5]))
      refine s_writes_Writes_All (b := b) (most := m) (cs := cs2) fun u3 hu3 => ?_
      repeat' (first | (with_reducible refine G.joini0 ?_) | (with_reducible refine G.joini1 ?_) | (with_reducible refine G.drew ?_) | (simp (maxSteps := 2000000) only [↓RG, RP, true_and, and_true, beq_true, beq_false, Bool.true_beq, Bool.false_beq, BEq.rfl, Int.reduceEq, Int.reduceLT, Int.reduceLE, Nat.reduceEqDiff, decide_true, decide_false, Bool.not_true, Bool.not_false, Bool.and_true, Bool.true_and, Bool.and_false, Bool.false_and, Bool.or_true, Bool.true_or, Bool.or_false, Bool.false_or, Bool.not_not]))
      refine s_book_Same_api_Cell (xs := cs2) (ys := cs2) (by omega) ?_
      repeat' (first | (with_reducible refine G.joini0 ?_) | (with_reducible refine G.joini1 ?_) | (with_reducible refine G.drew ?_) | (simp (maxSteps := 2000000) only [↓RG, RP, true_and, and_true, beq_true, beq_false, Bool.true_beq, Bool.false_beq, BEq.rfl, Int.reduceEq, Int.reduceLT, Int.reduceLE, Nat.reduceEqDiff, decide_true, decide_false, Bool.not_true, Bool.not_false, Bool.and_true, Bool.true_and, Bool.and_false, Bool.false_and, Bool.or_true, Bool.true_or, Bool.or_false, Bool.false_or, Bool.not_not]))
      refine s_writes_Writes_Len (b := b) (most := m) (cs := cs2) ?_
      repeat' (first | (with_reducible refine G.joini0 ?_) | (with_reducible refine G.joini1 ?_) | (with_reducible refine G.drew ?_) | (simp (maxSteps := 2000000) only [↓RG, RP, true_and, and_true, beq_true, beq_false, Bool.true_beq, Bool.false_beq, BEq.rfl, Int.reduceEq, Int.reduceLT, Int.reduceLE, Nat.reduceEqDiff, decide_true, decide_false, Bool.not_true, Bool.not_false, Bool.and_true, Bool.true_and, Bool.and_false, Bool.false_and, Bool.or_true, Bool.true_or, Bool.or_false, Bool.false_or, Bool.not_not]))
      rw [wsucc (by omega)]
      exact f2.sub

end
end Go.Proofs.Ytlgdcfocnaifbaa.S
