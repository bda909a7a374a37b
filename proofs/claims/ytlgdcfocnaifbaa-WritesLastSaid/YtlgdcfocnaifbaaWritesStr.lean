/-
  CHAPTER 8: WritesStripes, WritesLast.
-/
import Derived.Test.YtlgdcfocnaifbaaWritesLaw
import Derived.Test.YtlgdcfocnaifbaaArr
namespace Go.Proofs.Ytlgdcfocnaifbaa.S
open Go Go.Proofs
set_option linter.unusedVariables false
set_option linter.unusedSimpArgs false

/-- the numbers below m that are marked, rising -/
def marked (f : Nat → Bool) (m : Nat) : List Int := ((List.range m).filter f).map fun (j : Nat) => (j : Int)
theorem marked_zero {f : Nat → Bool} : marked f 0 = [] := rfl
theorem marked_succ {f : Nat → Bool} {m : Nat} : marked f (m + 1) = if f m then marked f m ++ [(m : Int)] else marked f m := by
  unfold marked
  rw [List.range_succ, List.filter_append, List.map_append]
  by_cases h : f m <;> simp [h]
theorem marked_rising {f : Nat → Bool} {m : Nat} : (marked f m).Pairwise (· < ·) := by
  unfold marked
  rw [List.pairwise_map]
  exact (List.Pairwise.filter _ List.pairwise_lt_range).imp (fun h => by omega)
theorem mem_marked {f : Nat → Bool} {m : Nat} {x : Int} : x ∈ marked f m ↔ ∃ j, j < m ∧ f j = true ∧ (j : Int) = x := by
  simp [marked, and_assoc]

theorem stripeOf_lt {a n wide : Int} (h : 0 ≤ stripeOf a n wide) : ∃ s : Nat, stripeOf a n wide = (s : Int) ∧ s < 16 := by
  have hb := held_le (n := n) (show (1 : Int) ≤ 16 by omega)
  have h2 : stripeOf a n wide < 16 := by
    unfold stripeOf at h ⊢
    split
    · omega
    · have := Int.tmod_lt_of_pos (IntKind.wrap .i64 (a.tdiv (held wide 1 16))) (show 0 < held n 1 16 by omega)
      omega
  exact ⟨(stripeOf a n wide).toNat, by omega, by omega⟩

/-- which stripes there are -/
def hasStripe (cs : List TCell) (n wide : Int) (j : Nat) : Bool := (stripesOf cs n wide).contains (j : Int)

theorem stripes_rising {cs : List TCell} {n wide : Int} : Lib.compact ((stripesOf cs n wide).mergeSort fun x y => decide (x ≤ y)) = marked (hasStripe cs n wide) 16 := by
  refine sort_compact marked_rising fun x => ?_
  rw [mem_marked]
  constructor
  · rintro ⟨j, _, h, rfl⟩
    simpa [hasStripe] using h
  · intro h
    have h2 := h
    simp only [stripesOf, List.mem_filter, List.mem_map, decide_eq_true_eq] at h2
    obtain ⟨⟨c, _, rfl⟩, h0⟩ := h2
    obtain ⟨s, e, hs⟩ := stripeOf_lt h0
    rw [e] at h ⊢
    exact ⟨s, hs, by simpa [hasStripe] using h, rfl⟩

theorem lookC_get : ∀ {cs : List TCell} {k : Nat} (hk : k < cs.length), (cs.map (·.place)).Nodup → lookC cs cs[k].place = some cs[k].word
  | c :: cs, 0, _, _ => by simp [lookC]
  | c :: cs, k + 1, hk, h => by
    simp only [List.map_cons, List.nodup_cons] at h
    have hk2 : k < cs.length := by simpa using hk
    have : c.place ≠ cs[k].place := fun e => h.1 (List.mem_map.2 ⟨cs[k], List.getElem_mem hk2, e.symm⟩)
    simp only [List.getElem_cons_succ, lookC, if_neg this]
    exact lookC_get hk2 h.2

section
variable {w0 : Base} {L M : List Asn} {K : KV} {F : World → Prop} {C : Asn → List Asn} {b : Nat} {cs : List TCell}

theorem s_ref7_Stripes {v : Value} {n wide : Int} [r : Rd w0 L v tCellE 2 cs] (hl : cs.length ≤ 100000) (hK : ∀ u, Cells u [u] → G w0 (sl intE u (marked (hasStripe cs n wide) 16) :: L) (K u)) : G w0 L (CP Try.prog Fn.ref7_Stripes [v, i64 n, i64 wide] K) := by
  refine C_ref7_Stripes ?_
  unfold S_ref7_Stripes
  refine G.new fun b => ?_
  refine G.loop1 (fun k : Nat => i64 k) (fun k => own b (arr 16 fun j => .bool (hasStripe (cs.take k) n wide j)) :: L) (fun k => k ≤ cs.length) (fun k => cs.length - k) 0 rfl rfl (by omega) ?_
  intro k hk J hJ
  try simp (maxSteps := 2000000) only [↓RG, RP, true_and, and_true, beq_true, beq_false, Bool.true_beq, Bool.false_beq, BEq.rfl, Int.reduceEq, Int.reduceLT, Int.reduceLE, Nat.reduceEqDiff, decide_true, decide_false, Bool.not_true, Bool.not_false, Bool.and_true, Bool.true_and, Bool.and_false, Bool.false_and, Bool.or_true, Bool.true_or, Bool.or_false, Bool.false_or, Bool.not_not]
  refine G.cond (fun h => ?_) (fun h => ?_)
  · have hk2 : k < cs.length := by simpa using h
    have e := elem_of hk2
    have t := stripesOf_take (n := n) (wide := wide) hk2
    try simp (maxSteps := 2000000) only [↓RG, RP, true_and, and_true, beq_true, beq_false, Bool.true_beq, Bool.false_beq, BEq.rfl, Int.reduceEq, Int.reduceLT, Int.reduceLE, Nat.reduceEqDiff, decide_true, decide_false, Bool.not_true, Bool.not_false, Bool.and_true, Bool.true_and, Bool.and_false, Bool.false_and, Bool.or_true, Bool.true_or, Bool.or_false, Bool.false_or, Bool.not_not]
    refine s_ref1_Of ?_
    try simp (maxSteps := 2000000) only [↓RG, RP, true_and, and_true, beq_true, beq_false, Bool.true_beq, Bool.false_beq, BEq.rfl, Int.reduceEq, Int.reduceLT, Int.reduceLE, Nat.reduceEqDiff, decide_true, decide_false, Bool.not_true, Bool.not_false, Bool.and_true, Bool.true_and, Bool.and_false, Bool.false_and, Bool.or_true, Bool.true_or, Bool.or_false, Bool.false_or, Bool.not_not]
    refine G.joini0 ?_
    refine G.cond (fun h2 => ?_) (fun h2 => ?_)
    · have h3 : 0 ≤ stripeOf cs[k].place n wide := by simpa using h2
      obtain ⟨s, es, hs⟩ := stripeOf_lt h3
      rw [if_pos h3, es] at t
      have sg := arr_seg (n := 16) (g := fun j => .bool (hasStripe (cs.take k) n wide j)) (v := .bool true) hs
      rw [es]
      try simp (maxSteps := 2000000) only [↓RG, RP, true_and, and_true, beq_true, beq_false, Bool.true_beq, Bool.false_beq, BEq.rfl, Int.reduceEq, Int.reduceLT, Int.reduceLE, Nat.reduceEqDiff, decide_true, decide_false, Bool.not_true, Bool.not_false, Bool.and_true, Bool.true_and, Bool.and_false, Bool.false_and, Bool.or_true, Bool.true_or, Bool.or_false, Bool.false_or, Bool.not_not, G_aidx (n := 16) (k := s) rfl hs]
      rw [wsucc (by omega)]
      have hn := hJ (k + 1) hk2 (by omega)
      rw [arr_congr (h := updA (fun j => .bool (hasStripe (cs.take k) n wide j)) s (.bool true)) (fun j hj => by
        simp only [hasStripe, t, updA]
        by_cases hjs : j = s
        · simp [hjs]
        · rw [if_neg hjs]
          congr 1
          rw [Bool.eq_iff_iff]
          simp; omega)] at hn
      exact hn
    · rw [if_neg (by simpa using h2)] at t
      try simp (maxSteps := 2000000) only [↓RG, RP, true_and, and_true, beq_true, beq_false, Bool.true_beq, Bool.false_beq, BEq.rfl, Int.reduceEq, Int.reduceLT, Int.reduceLE, Nat.reduceEqDiff, decide_true, decide_false, Bool.not_true, Bool.not_false, Bool.and_true, Bool.true_and, Bool.and_false, Bool.false_and, Bool.or_true, Bool.true_or, Bool.or_false, Bool.false_or, Bool.not_not]
      rw [wsucc (by omega)]
      have hn := hJ (k + 1) hk2 (by omega)
      simp only [hasStripe, t] at hn
      exact hn
  · have ht : cs.take k = cs := List.take_of_length_le (by simpa using h)
    rw [ht]
    refine G.nilsl intE ?_
    refine G.loop2 (σ := Value × Nat) (fun z => z.1) (fun z => i64 z.2) (fun z => sl intE z.1 (marked (hasStripe cs n wide) z.2) :: own b (arr 16 fun j => .bool (hasStripe cs n wide j)) :: L) (fun z => z.2 ≤ 16 ∧ (marked (hasStripe cs n wide) z.2).length ≤ z.2 ∧ Cells z.1 [z.1]) (fun z => 16 - z.2) (.slice none 0 0, 0) rfl rfl rfl ⟨by simp, by simp [marked_zero], cells_slice⟩ ?_
    rintro ⟨u, m⟩ ⟨hm, hml, hu⟩ J hJ
    simp only at hm hml hu hJ ⊢
    try simp (maxSteps := 2000000) only [↓RG, RP, true_and, and_true, beq_true, beq_false, Bool.true_beq, Bool.false_beq, BEq.rfl, Int.reduceEq, Int.reduceLT, Int.reduceLE, Nat.reduceEqDiff, decide_true, decide_false, Bool.not_true, Bool.not_false, Bool.and_true, Bool.true_and, Bool.and_false, Bool.false_and, Bool.or_true, Bool.true_or, Bool.or_false, Bool.false_or, Bool.not_not]
    refine G.cond (fun h => ?_) (fun h => ?_)
    · have hm2 : m < 16 := by simp at h; omega
      have nt := arr_nth (g := fun j => .bool (hasStripe cs n wide j)) hm2
      have ms := marked_succ (f := hasStripe cs n wide) (m := m)
      try simp (maxSteps := 2000000) only [↓RG, RP, true_and, and_true, beq_true, beq_false, Bool.true_beq, Bool.false_beq, BEq.rfl, Int.reduceEq, Int.reduceLT, Int.reduceLE, Nat.reduceEqDiff, decide_true, decide_false, Bool.not_true, Bool.not_false, Bool.and_true, Bool.true_and, Bool.and_false, Bool.false_and, Bool.or_true, Bool.true_or, Bool.or_false, Bool.false_or, Bool.not_not, G_aidx (n := 16) (k := m) rfl hm2]
      refine G.joini1 ?_
      refine G.cond (fun h2 => ?_) (fun h2 => ?_)
      · rw [if_pos h2] at ms
        refine G.append1 (E := intE) rfl rfl (by decide) (by omega) (by simp only [maxLen]; omega) fun y hy => ?_
        try simp (maxSteps := 2000000) only [↓RG, RP, true_and, and_true, beq_true, beq_false, Bool.true_beq, Bool.false_beq, BEq.rfl, Int.reduceEq, Int.reduceLT, Int.reduceLE, Nat.reduceEqDiff, decide_true, decide_false, Bool.not_true, Bool.not_false, Bool.and_true, Bool.true_and, Bool.and_false, Bool.false_and, Bool.or_true, Bool.true_or, Bool.or_false, Bool.false_or, Bool.not_not]
        rw [wsucc (by omega)]
        have hn := hJ (y, m + 1) ⟨by simp; omega, by rw [ms]; simp; omega, hy⟩ (by simp; omega)
        simp only [ms] at hn
        exact hn
      · rw [if_neg (by simp [h2])] at ms
        try simp (maxSteps := 2000000) only [↓RG, RP, true_and, and_true, beq_true, beq_false, Bool.true_beq, Bool.false_beq, BEq.rfl, Int.reduceEq, Int.reduceLT, Int.reduceLE, Nat.reduceEqDiff, decide_true, decide_false, Bool.not_true, Bool.not_false, Bool.and_true, Bool.true_and, Bool.and_false, Bool.false_and, Bool.or_true, Bool.true_or, Bool.or_false, Bool.false_or, Bool.not_not]
        rw [wsucc (by omega)]
        have hn := hJ (u, m + 1) ⟨by simp; omega, by rw [ms]; simp; omega, hu⟩ (by simp; omega)
        simp only [ms] at hn
        exact hn
    · have hm2 : m = 16 := by simp at h; omega
      subst hm2
      exact (hK u hu).sub

theorem s_law8_WritesStripes {l : Value} {n wide : Int} {raw : Bool} {qs : List TCell} [a : Arg w0 l tCellE qs] (hK : G w0 L (K (.bool true))) : G w0 L (CP Try.prog Fn.law8_WritesStripes [l, i64 n, i64 wide, .bool raw] K) := by
  refine C_law8_WritesStripes ?_
  unfold S_law8_WritesStripes
  refine s_law8_WritesRuns ?_
  try simp (maxSteps := 2000000) only [↓RG, RP, true_and, and_true, beq_true, beq_false, Bool.true_beq, Bool.false_beq, BEq.rfl, Int.reduceEq, Int.reduceLT, Int.reduceLE, Nat.reduceEqDiff, decide_true, decide_false, Bool.not_true, Bool.not_false, Bool.and_true, Bool.true_and, Bool.and_false, Bool.false_and, Bool.or_true, Bool.true_or, Bool.or_false, Bool.false_or, Bool.not_not]
  refine G.cond (fun h => hK) (fun h => ?_)
  have hq : qs.length ≤ 200 := by simp at h; omega
  refine G.nilsl tCellE ?_
  refine G.loop2 (σ := Value × List TCell × Nat) (fun z => z.1) (fun z => i64 z.2.2) (fun z => sl tCellE z.1 z.2.1 :: L) (fun z => z.2.2 ≤ qs.length ∧ z.2.1.length = z.2.2 ∧ Cells z.1 [z.1]) (fun z => qs.length - z.2.2) (.slice none 0 0, [], 0) rfl rfl rfl ⟨by simp, rfl, cells_slice⟩ ?_
  rintro ⟨u, cs, k⟩ ⟨hk, hcs, hu⟩ J hJ
  simp only at hk hcs hu hJ ⊢
  try simp (maxSteps := 2000000) only [↓RG, RP, true_and, and_true, beq_true, beq_false, Bool.true_beq, Bool.false_beq, BEq.rfl, Int.reduceEq, Int.reduceLT, Int.reduceLE, Nat.reduceEqDiff, decide_true, decide_false, Bool.not_true, Bool.not_false, Bool.and_true, Bool.true_and, Bool.and_false, Bool.false_and, Bool.or_true, Bool.true_or, Bool.or_false, Bool.false_or, Bool.not_not]
  refine G.cond (fun h => ?_) (fun h => ?_)
  · have hk2 : k < qs.length := by simpa using h
    have e := elem_of hk2
    try simp (maxSteps := 2000000) only [↓RG, RP, true_and, and_true, beq_true, beq_false, Bool.true_beq, Bool.false_beq, BEq.rfl, Int.reduceEq, Int.reduceLT, Int.reduceLE, Nat.reduceEqDiff, decide_true, decide_false, Bool.not_true, Bool.not_false, Bool.and_true, Bool.true_and, Bool.and_false, Bool.false_and, Bool.or_true, Bool.true_or, Bool.or_false, Bool.false_or, Bool.not_not]
    refine G.new fun p => ?_
    try simp (maxSteps := 2000000) only [↓RG, RP, true_and, and_true, beq_true, beq_false, Bool.true_beq, Bool.false_beq, BEq.rfl, Int.reduceEq, Int.reduceLT, Int.reduceLE, Nat.reduceEqDiff, decide_true, decide_false, Bool.not_true, Bool.not_false, Bool.and_true, Bool.true_and, Bool.and_false, Bool.false_and, Bool.or_true, Bool.true_or, Bool.or_false, Bool.false_or, Bool.not_not]
    refine G.join0 (σ := TCell) (fun c => own p (TCell.cells c) :: sl tCellE u cs :: L) (fun _ => True) (fun c _ => ?_) (fun J2 hJ2 => ?_)
    · try simp (maxSteps := 2000000) only [↓RG, RP, true_and, and_true, beq_true, beq_false, Bool.true_beq, Bool.false_beq, BEq.rfl, Int.reduceEq, Int.reduceLT, Int.reduceLE, Nat.reduceEqDiff, decide_true, decide_false, Bool.not_true, Bool.not_false, Bool.and_true, Bool.true_and, Bool.and_false, Bool.false_and, Bool.or_true, Bool.true_or, Bool.or_false, Bool.false_or, Bool.not_not]
      refine G.append1 (E := tCellE) (a := c) rfl rfl (by decide) (by omega) (by simp only [maxLen]; omega) fun y hy => ?_
      try simp (maxSteps := 2000000) only [↓RG, RP, true_and, and_true, beq_true, beq_false, Bool.true_beq, Bool.false_beq, BEq.rfl, Int.reduceEq, Int.reduceLT, Int.reduceLE, Nat.reduceEqDiff, decide_true, decide_false, Bool.not_true, Bool.not_false, Bool.and_true, Bool.true_and, Bool.and_false, Bool.false_and, Bool.or_true, Bool.true_or, Bool.or_false, Bool.false_or, Bool.not_not]
      rw [wsucc (by omega)]
      exact (hJ (y, cs ++ [c], k + 1) ⟨hk2, by simp [hcs], hy⟩ (by simp; omega)).sub
    · refine G.cond (fun h2 => ?_) (fun h2 => ?_)
      · try simp (maxSteps := 2000000) only [↓RG, RP, true_and, and_true, beq_true, beq_false, Bool.true_beq, Bool.false_beq, BEq.rfl, Int.reduceEq, Int.reduceLT, Int.reduceLE, Nat.reduceEqDiff, decide_true, decide_false, Bool.not_true, Bool.not_false, Bool.and_true, Bool.true_and, Bool.and_false, Bool.false_and, Bool.or_true, Bool.true_or, Bool.or_false, Bool.false_or, Bool.not_not]
        refine s_book_Within (by omega) (by omega) (by omega) (by omega) ?_
        try simp (maxSteps := 2000000) only [↓RG, RP, true_and, and_true, beq_true, beq_false, Bool.true_beq, Bool.false_beq, BEq.rfl, Int.reduceEq, Int.reduceLT, Int.reduceLE, Nat.reduceEqDiff, decide_true, decide_false, Bool.not_true, Bool.not_false, Bool.and_true, Bool.true_and, Bool.and_false, Bool.false_and, Bool.or_true, Bool.true_or, Bool.or_false, Bool.false_or, Bool.not_not]
        exact hJ2 ⟨within qs[k].place 1 255, qs[k].word⟩ trivial
      · exact hJ2 qs[k] trivial
  · refine s_writes_Stripes (cs := cs) (by omega) fun u1 hu1 => ?_
    refine s_ref7_Stripes (cs := cs) (by omega) fun u2 hu2 => ?_
    rw [stripes_rising]
    have hml : (marked (hasStripe cs n wide) 16).length ≤ 16 := by
      unfold marked
      rw [List.length_map]
      exact Nat.le_trans (List.length_filter_le _ _) (by simp)
    refine s_book_Same_int (xs := marked (hasStripe cs n wide) 16) (ys := marked (hasStripe cs n wide) 16) (by omega) ?_
    try simp (maxSteps := 2000000) only [↓RG, RP, true_and, and_true, beq_true, beq_false, Bool.true_beq, Bool.false_beq, BEq.rfl, Int.reduceEq, Int.reduceLT, Int.reduceLE, Nat.reduceEqDiff, decide_true, decide_false, Bool.not_true, Bool.not_false, Bool.and_true, Bool.true_and, Bool.and_false, Bool.false_and, Bool.or_true, Bool.true_or, Bool.or_false, Bool.false_or, Bool.not_not]
    exact hK.sub

theorem lookC_isSome_mem {a : Int} : ∀ {cs : List TCell} , (lookC cs a).isSome = true → ∃ c ∈ cs, c.place = a
  | c :: cs, h => by
    unfold lookC at h
    split at h
    · rename_i e; exact ⟨c, by simp, e⟩
    · obtain ⟨d, hd, e⟩ := lookC_isSome_mem h
      exact ⟨d, by simp [hd], e⟩

set_option maxHeartbeats 1000000 in
theorem s_law8_WritesLast {l1 l2 : Value} {ps xs : List Int} [a1 : Arg w0 l1 byteE ps] [a2 : Arg w0 l2 wordE xs] (hr0 : ∀ x ∈ ps, good [.i .u8] (byteE.enc x)) (hK : G w0 L (K (.bool true))) : G w0 L (CP Try.prog Fn.law8_WritesLast [l1, l2] K) := by
  have g0 := good_u8 hr0
  refine C_law8_WritesLast ?_
  unfold S_law8_WritesLast
  refine s_law8_WritesRuns ?_
  try simp (maxSteps := 2000000) only [fuse_and, fuse_or, fuse_step, fuse_pair, fuse_in, andP_true]
  try simp (maxSteps := 2000000) only [↓RG, RP, true_and, and_true, beq_true, beq_false, Bool.true_beq, Bool.false_beq, BEq.rfl, Int.reduceEq, Int.reduceLT, Int.reduceLE, Nat.reduceEqDiff, decide_true, decide_false, Bool.not_true, Bool.not_false, Bool.and_true, Bool.true_and, Bool.and_false, Bool.false_and, Bool.or_true, Bool.true_or, Bool.or_false, Bool.false_or, Bool.not_not]
  refine s_writes_New fun b => ?_
  rw [show held 96 0 96 = 96 from rfl]
  try simp (maxSteps := 2000000) only [↓RG, RP, true_and, and_true, beq_true, beq_false, Bool.true_beq, Bool.false_beq, BEq.rfl, Int.reduceEq, Int.reduceLT, Int.reduceLE, Nat.reduceEqDiff, decide_true, decide_false, Bool.not_true, Bool.not_false, Bool.and_true, Bool.true_and, Bool.and_false, Bool.false_and, Bool.or_true, Bool.true_or, Bool.or_false, Bool.false_or, Bool.not_not]
  refine G.new fun p5 => ?_
  refine G.new fun p6 => ?_
  refine G.nilsl intE ?_
  refine G.loop2 (σ := Value × List TCell × Nat) (fun z => z.1) (fun z => i64 z.2.2) (fun z => sl intE z.1 (z.2.1.map (·.place)) :: own p6 (arr 20 fun j => .bool (lookC z.2.1 j).isSome) :: own p5 (arr 20 fun j => u64 ((lookC z.2.1 j).getD 0)) :: ob WritesR b (96, z.2.1) :: L)
    (fun z => z.2.2 ≤ 80 ∧ z.2.1.length ≤ z.2.2 ∧ Cells z.1 [z.1] ∧ ∀ c ∈ z.2.1, 0 ≤ c.place ∧ c.place < 20) (fun z => 80 - z.2.2) (.slice none 0 0, [], 0) rfl rfl rfl ⟨by simp, by simp, cells_slice, by simp⟩ ?_
  rintro ⟨u, cs, k⟩ ⟨hk, hcs, hu, hin⟩ J hJ
  simp only at hk hcs hu hin hJ ⊢
  try simp (maxSteps := 2000000) only [↓RG, RP, true_and, and_true, beq_true, beq_false, Bool.true_beq, Bool.false_beq, BEq.rfl, Int.reduceEq, Int.reduceLT, Int.reduceLE, Nat.reduceEqDiff, decide_true, decide_false, Bool.not_true, Bool.not_false, Bool.and_true, Bool.true_and, Bool.and_false, Bool.false_and, Bool.or_true, Bool.true_or, Bool.or_false, Bool.false_or, Bool.not_not]
  refine G.all (decide ((k : Int) < xs.length)) (fun _ K hK => by try simp (maxSteps := 2000000) only [↓RG, RP, true_and, and_true, beq_true, beq_false, Bool.true_beq, Bool.false_beq, BEq.rfl, Int.reduceEq, Int.reduceLT, Int.reduceLE, Nat.reduceEqDiff, decide_true, decide_false, Bool.not_true, Bool.not_false, Bool.and_true, Bool.true_and, Bool.and_false, Bool.false_and, Bool.or_true, Bool.true_or, Bool.or_false, Bool.false_or, Bool.not_not]; exact hK) ?_
  try simp (maxSteps := 2000000) only [↓RG, RP, true_and, and_true, beq_true, beq_false, Bool.true_beq, Bool.false_beq, BEq.rfl, Int.reduceEq, Int.reduceLT, Int.reduceLE, Nat.reduceEqDiff, decide_true, decide_false, Bool.not_true, Bool.not_false, Bool.and_true, Bool.true_and, Bool.and_false, Bool.false_and, Bool.or_true, Bool.true_or, Bool.or_false, Bool.false_or, Bool.not_not]
  refine G.cond (fun h => ?_) (fun h => ?_)
  · have hk2 : k < ps.length ∧ k < xs.length ∧ k < 80 := by simp at h; omega
    have e1 := elem_of hk2.1
    have e2 := elem_of hk2.2.1
    have hp := g0 _ (List.getElem_mem hk2.1)
    obtain ⟨at_, ha, hat⟩ : ∃ n : Nat, IntKind.wrap .i64 (IntKind.wrap .i64 (ps[k].tmod 19) + 1) = (n : Int) ∧ 1 ≤ n ∧ n < 20 := by
      have : ps[k].tmod 19 = ps[k] % 19 := Int.tmod_eq_emod_of_nonneg hp.1
      rw [this, wi64 (n := ps[k] % 19) (by omega) (by omega), wi64 (by omega) (by omega)]
      exact ⟨(ps[k] % 19 + 1).toNat, by omega, by omega, by omega⟩
    have hok : okAt (at_ : Int) = true := by rw [okAt_iff]; omega
    have h0 : wErr 96 cs at_ = 0 := by
      unfold wErr
      rw [if_pos hok]
      split
      · rfl
      · rw [if_neg (by omega)]
    have hlk := @lookC_put at_ xs[k]
    have hpl := putC_places (cs := cs) (a := at_) (x := xs[k])
    have hln := putC_le (cs := cs) (a := at_) (x := xs[k])
    have n1 := arr_nth (n := 20) (g := fun j => .bool (lookC cs j).isSome) hat.2
    have s1 := arr_seg (n := 20) (g := fun j => .bool (lookC cs j).isSome) (v := .bool true) hat.2
    have s2 := arr_seg (n := 20) (g := fun j => u64 ((lookC cs j).getD 0)) (v := u64 xs[k]) hat.2
    have hn : ∀ y, Cells y [y] → G w0 (sl intE y ((putC cs at_ xs[k]).map (·.place)) :: own p6 (arr 20 (updA (fun j => .bool (lookC cs j).isSome) at_ (.bool true))) :: own p5 (arr 20 (updA (fun j => u64 ((lookC cs j).getD 0)) at_ (u64 xs[k]))) :: ob WritesR b (96, putC cs at_ xs[k]) :: L) (J y (i64 ((k + 1 : Nat) : Int))) := fun y hy => by
      have h := hJ (y, putC cs at_ xs[k], k + 1) ⟨hk2.2.2, by simp only; omega, hy, fun c hc => by
        rcases mem_putC hc with h1 | h1
        · exact hin c h1
        · omega⟩ (by simp; omega)
      simp only [hlk] at h
      have ea : arr 20 (fun j => .bool (if (at_ : Int) = j then some xs[k] else lookC cs j).isSome) = arr 20 (updA (fun j => .bool (lookC cs j).isSome) at_ (.bool true)) := arr_congr fun j hj => by
        by_cases hja : j = at_
        · subst hja; simp [updA]
        · rw [if_neg (by omega)]; simp [updA, hja]
      have eb : arr 20 (fun j => u64 ((if (at_ : Int) = j then some xs[k] else lookC cs j).getD 0)) = arr 20 (updA (fun j => u64 ((lookC cs j).getD 0)) at_ (u64 xs[k])) := arr_congr fun j hj => by
        by_cases hja : j = at_
        · subst hja; simp [updA]
        · rw [if_neg (by omega)]; simp [updA, hja]
      rw [ea, eb] at h
      exact h
    try simp (maxSteps := 2000000) only [↓RG, RP, true_and, and_true, beq_true, beq_false, Bool.true_beq, Bool.false_beq, BEq.rfl, Int.reduceEq, Int.reduceLT, Int.reduceLE, Nat.reduceEqDiff, decide_true, decide_false, Bool.not_true, Bool.not_false, Bool.and_true, Bool.true_and, Bool.and_false, Bool.false_and, Bool.or_true, Bool.true_or, Bool.or_false, Bool.false_or, Bool.not_not]
    rw [ha]
    refine s_writes_Writes_Put (most := 96) (cs := cs) ?_
    rw [h0, if_pos rfl]
    try simp (maxSteps := 2000000) only [↓RG, RP, true_and, and_true, beq_true, beq_false, Bool.true_beq, Bool.false_beq, BEq.rfl, Int.reduceEq, Int.reduceLT, Int.reduceLE, Nat.reduceEqDiff, decide_true, decide_false, Bool.not_true, Bool.not_false, Bool.and_true, Bool.true_and, Bool.and_false, Bool.false_and, Bool.or_true, Bool.true_or, Bool.or_false, Bool.false_or, Bool.not_not, G_aidx (n := 20) (k := at_) rfl hat.2]
    refine G.joini1 ?_
    cases hlo : (lookC cs at_).isSome with
    | true =>
      rw [idxC_isSome, hlo, if_pos rfl] at hpl
      rw [hpl] at hn
      repeat' (first | (with_reducible refine G.joini0 ?_) | (with_reducible refine G.joini1 ?_) | (with_reducible refine G.drew ?_) | (simp (maxSteps := 2000000) only [↓RG, RP, true_and, and_true, beq_true, beq_false, Bool.true_beq, Bool.false_beq, BEq.rfl, Int.reduceEq, Int.reduceLT, Int.reduceLE, Nat.reduceEqDiff, decide_true, decide_false, Bool.not_true, Bool.not_false, Bool.and_true, Bool.true_and, Bool.and_false, Bool.false_and, Bool.or_true, Bool.true_or, Bool.or_false, Bool.false_or, Bool.not_not, G_aidx (n := 20) (k := at_) rfl hat.2]))
      rw [wsucc (by omega)]
      exact (hn u hu).sub
    | false =>
      rw [idxC_isSome, hlo, if_neg (by simp)] at hpl
      rw [hpl] at hn
      try simp (maxSteps := 2000000) only [↓RG, RP, true_and, and_true, beq_true, beq_false, Bool.true_beq, Bool.false_beq, BEq.rfl, Int.reduceEq, Int.reduceLT, Int.reduceLE, Nat.reduceEqDiff, decide_true, decide_false, Bool.not_true, Bool.not_false, Bool.and_true, Bool.true_and, Bool.and_false, Bool.false_and, Bool.or_true, Bool.true_or, Bool.or_false, Bool.false_or, Bool.not_not]
      refine G.append1 (E := intE) rfl rfl (by decide) (by simp; omega) (by simp only [maxLen]; simp; omega) fun y hy => ?_
      repeat' (first | (with_reducible refine G.joini0 ?_) | (with_reducible refine G.joini1 ?_) | (with_reducible refine G.drew ?_) | (simp (maxSteps := 2000000) only [↓RG, RP, true_and, and_true, beq_true, beq_false, Bool.true_beq, Bool.false_beq, BEq.rfl, Int.reduceEq, Int.reduceLT, Int.reduceLE, Nat.reduceEqDiff, decide_true, decide_false, Bool.not_true, Bool.not_false, Bool.and_true, Bool.true_and, Bool.and_false, Bool.false_and, Bool.or_true, Bool.true_or, Bool.or_false, Bool.false_or, Bool.not_not, G_aidx (n := 20) (k := at_) rfl hat.2]))
      rw [wsucc (by omega)]
      exact (hn y hy).sub
  · refine G.okW (b := b) (most := 96) (cs := cs) fun hw => ?_
    have hnd := hw.ok.nodup
    refine s_writes_Writes_All (b := b) (most := 96) (cs := cs) fun u2 hu2 => ?_
    have hlen : (cs.map (·.place)).length = cs.length := by simp
    try simp (maxSteps := 2000000) only [↓RG, RP, true_and, and_true, beq_true, beq_false, Bool.true_beq, Bool.false_beq, BEq.rfl, Int.reduceEq, Int.reduceLT, Int.reduceLE, Nat.reduceEqDiff, decide_true, decide_false, Bool.not_true, Bool.not_false, Bool.and_true, Bool.true_and, Bool.and_false, Bool.false_and, Bool.or_true, Bool.true_or, Bool.or_false, Bool.false_or, Bool.not_not, hlen]
    refine G.loopc1 (fun k : Nat => i64 k) (fun k => k ≤ cs.length) (fun k => cs.length - k) 0 rfl (by simp) ?_
    intro i hi J2 hJ2
    try simp (maxSteps := 2000000) only [↓RG, RP, true_and, and_true, beq_true, beq_false, Bool.true_beq, Bool.false_beq, BEq.rfl, Int.reduceEq, Int.reduceLT, Int.reduceLE, Nat.reduceEqDiff, decide_true, decide_false, Bool.not_true, Bool.not_false, Bool.and_true, Bool.true_and, Bool.and_false, Bool.false_and, Bool.or_true, Bool.true_or, Bool.or_false, Bool.false_or, Bool.not_not]
    refine G.cond (fun h => ?_) (fun h => hK.sub)
    have hi2 : i < cs.length := by simpa using h
    have e1 := elem_of hi2
    have e2 : Elem (cs.map (·.place)) i cs[i].place := ⟨by simp [hi2]⟩
    have hl := lookC_get hi2 hnd
    have hb := hin cs[i] (List.getElem_mem hi2)
    obtain ⟨a, ha, ha2⟩ : ∃ a : Nat, cs[i].place = (a : Int) ∧ a < 20 := ⟨cs[i].place.toNat, by omega, by omega⟩
    have n2 := arr_nth (n := 20) (g := fun j => u64 ((lookC cs j).getD 0)) ha2
    simp only [← ha, hl, Option.getD_some] at n2
    repeat' (first | (with_reducible refine G.joini0 ?_) | (with_reducible refine G.joini1 ?_) | (with_reducible refine G.drew ?_) | (simp (maxSteps := 2000000) only [↓RG, RP, true_and, and_true, beq_true, beq_false, Bool.true_beq, Bool.false_beq, BEq.rfl, Int.reduceEq, Int.reduceLT, Int.reduceLE, Nat.reduceEqDiff, decide_true, decide_false, Bool.not_true, Bool.not_false, Bool.and_true, Bool.true_and, Bool.and_false, Bool.false_and, Bool.or_true, Bool.true_or, Bool.or_false, Bool.false_or, Bool.not_not, G_aidx (n := 20) (k := a) ha ha2]))
    rw [wsucc (by omega)]
    exact hJ2 (i + 1) hi2 (by omega)

end
end Go.Proofs.Ytlgdcfocnaifbaa.S
