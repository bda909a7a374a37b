/-
  CHAPTER 8: WritesStripes, WritesLast.
-/
import Derived.Test.YtokbiojkpldfeaaGreatWritesLaw
import Derived.Test.YtokbiojkpldfeaaGreatArr
namespace Go.Proofs.YtokbiojkpldfeaaGreat.S
open Go Go.Proofs
set_option linter.unusedVariables false
set_option linter.unusedSimpArgs false

/-- the numbers below m that are marked, rising -/
def marked (f : Nat → Bool) (m : Nat) : List Int := ((List.range m).filter f).map fun (j : Nat) => (j : Int)
theorem marked_zero {f : Nat → Bool} : marked f 0 = [] := rfl
theorem marked_succ {f : Nat → Bool} {m : Nat} : marked f (m + 1) = if f m then marked f m ++ [(m : Int)] else marked f m := by
  unfold marked
  rw [List.range_succ, List.filter_append, List.map_append]
  by_cases h : f m <;> simp [h]
theorem marked_rising {f : Nat → Bool} {m : Nat} : (marked f m).Pairwise (· < ·) := by
  unfold marked
  rw [List.pairwise_map]
  exact (List.Pairwise.filter _ List.pairwise_lt_range).imp (fun h => by omega)
theorem mem_marked {f : Nat → Bool} {m : Nat} {x : Int} : x ∈ marked f m ↔ ∃ j, j < m ∧ f j = true ∧ (j : Int) = x := by
  simp [marked, and_assoc]

theorem stripeOf_lt {a n wide : Int} (h : 0 ≤ stripeOf a n wide) : ∃ s : Nat, stripeOf a n wide = (s : Int) ∧ s < 16 := by
  have hb := held_le (n := n) (show (1 : Int) ≤ 16 by omega)
  have h2 : stripeOf a n wide < 16 := by
    unfold stripeOf at h ⊢
    split
    · omega
    · have := Int.tmod_lt_of_pos (IntKind.wrap .i64 (a.tdiv (held wide 1 16))) (show 0 < held n 1 16 by omega)
      omega
  exact ⟨(stripeOf a n wide).toNat, by omega, by omega⟩

/-- which stripes there are -/
def hasStripe (cs : List TCell) (n wide : Int) (j : Nat) : Bool := (stripesOf cs n wide).contains (j : Int)

theorem stripes_rising {cs : List TCell} {n wide : Int} : Lib.compact ((stripesOf cs n wide).mergeSort fun x y => decide (x ≤ y)) = marked (hasStripe cs n wide) 16 := by
  refine sort_compact marked_rising fun x => ?_
  rw [mem_marked]
  constructor
  · rintro ⟨j, _, h, rfl⟩
    simpa [hasStripe] using h
  · intro h
    have h2 := h
    simp only [stripesOf, List.mem_filter, List.mem_map, decide_eq_true_eq] at h2
    obtain ⟨⟨c, _, rfl⟩, h0⟩ := h2
    obtain ⟨s, e, hs⟩ := stripeOf_lt h0
    rw [e] at h ⊢
    exact ⟨s, hs, by simpa [hasStripe] using h, rfl⟩

theorem lookC_get : ∀ {cs : List TCell} {k : Nat} (hk : k < cs.length), (cs.map (·.place)).Nodup → lookC cs cs[k].place = some cs[k].word
  | c :: cs, 0, _, _ => by simp [lookC]
  | c :: cs, k + 1, hk, h => by
    simp only [List.map_cons, List.nodup_cons] at h
    have hk2 : k < cs.length := by simpa using hk
    have : c.place ≠ cs[k].place := fun e => h.1 (List.mem_map.2 ⟨cs[k], List.getElem_mem hk2, e.symm⟩)
    simp only [List.getElem_cons_succ, lookC, if_neg this]
    exact lookC_get hk2 h.2

section
variable {w0 : Base} {L M : List Asn} {K : KV} {F : World → Prop} {C : Asn → List Asn} {b : Nat} {cs : List TCell}

theorem s_ref7_Stripes {v : Value} {n wide : Int} [r : Rd w0 L v tCellE 2 cs] (hl : cs.length ≤ 100000) (hK : ∀ u, Cells u [u] → G w0 (sl intE u (marked (hasStripe cs n wide) 16) :: L) (K u)) : G w0 L (CP Tryz.prog Fn.ref7_Stripes [v, i64 n, i64 wide] K) := by
  refine C_ref7_Stripes ?_
  unfold S_ref7_Stripes
  refine G.new fun b => ?_
  refine G.loop1 (fun k : Nat => i64 k) (fun k => own b (arr 16 fun j => .bool (hasStripe (cs.take k) n wide j)) :: L) (fun k => k ≤ cs.length) (fun k => cs.length - k) 0 rfl rfl (by omega) ?_
  intro k hk J hJ
  try simp (maxSteps := 2000000) only [↓RG, RP, true_and, and_true, beq_true, beq_false, Bool.true_beq, Bool.false_beq, BEq.rfl, Int.reduceEq, Int.reduceLT, Int.reduceLE, Nat.reduceEqDiff, decide_true, decide_false, Bool.not_true, Bool.not_false, Bool.and_true, Bool.true_and, Bool.and_false, Bool.false_and, Bool.or_true, Bool.true_or, Bool.or_false, Bool.false_or, Bool.not_not]
  refine G.cond (fun h => ?_) (fun h => ?_)
  · have hk2 : k < cs.length := by simpa using h
    have e := elem_of hk2
    have t := stripesOf_take (n := n) (wide := wide) hk2
    try simp (maxSteps := 2000000) only [↓RG, RP, true_and, and_true, beq_true, beq_false, Bool.true_beq, Bool.false_beq, BEq.rfl, Int.reduceEq, Int.reduceLT, Int.reduceLE, Nat.reduceEqDiff, decide_true, decide_false, Bool.not_true, Bool.not_false, Bool.and_true, Bool.true_and, Bool.and_false, Bool.false_and, Bool.or_true, Bool.true_or, Bool.or_false, Bool.false_or, Bool.not_not]
    refine s_ref1_Of ?_
    try simp (maxSteps := 2000000) only [↓RG, RP, true_and, and_true, beq_true, beq_false, Bool.true_beq, Bool.false_beq, BEq.rfl, Int.reduceEq, Int.reduceLT, Int.reduceLE, Nat.reduceEqDiff, decide_true, decide_false, Bool.not_true, Bool.not_false, Bool.and_true, Bool.true_and, Bool.and_false, Bool.false_and, Bool.or_true, Bool.true_or, Bool.or_false, Bool.false_or, Bool.not_not]
    refine G.joini0 ?_
    refine G.cond (fun h2 => ?_) (fun h2 => ?_)
    · have h3 : 0 ≤ stripeOf cs[k].place n wide := by simpa using h2
      obtain ⟨s, es, hs⟩ := stripeOf_lt h3
      rw [if_pos h3, es] at t
      have sg := arr_seg (n := 16) (g := fun j => .bool (hasStripe (cs.take k) n wide j)) (v := .bool true) hs
      rw [es]
      try simp (maxSteps := 2000000) only [↓RG, RP, true_and, and_true, beq_true, beq_false, Bool.true_beq, Bool.false_beq, BEq.rfl, Int.reduceEq, Int.reduceLT, Int.reduceLE, Nat.reduceEqDiff, decide_true, decide_false, Bool.not_true, Bool.not_false, Bool.and_true, Bool.true_and, Bool.and_false, Bool.false_and, Bool.or_true, Bool.true_or, Bool.or_false, Bool.false_or, Bool.not_not, G_aidx (n := 16) (k := s) rfl hs]
      rw [wsucc (by omega)]
      have hn := hJ (k + 1) hk2 (by omega)
      rw [arr_congr (h := updA (fun j => .bool (hasStripe (cs.take k) n wide j)) s (.bool true)) (fun j hj => by
        simp only [hasStripe, t, updA]
        by_cases hjs : j = s
        · simp [hjs]
        · rw [if_neg hjs]
          congr 1
          rw [Bool.eq_iff_iff]
          simp; omega)] at hn
      exact hn
    · rw [if_neg (by simpa using h2)] at t
      try simp (maxSteps := 2000000) only [↓RG, RP, true_and, and_true, beq_true, beq_false, Bool.true_beq, Bool.false_beq, BEq.rfl, Int.reduceEq, Int.reduceLT, Int.reduceLE, Nat.reduceEqDiff, decide_true, decide_false, Bool.not_true, Bool.not_false, Bool.and_true, Bool.true_and, Bool.and_false, Bool.false_and, Bool.or_true, Bool.true_or, Bool.or_false, Bool.false_or, Bool.not_not]
      rw [wsucc (by omega)]
      have hn := hJ (k + 1) hk2 (by omega)
      simp only [hasStripe, t] at hn
      exact hn
  · have ht : cs.take k = cs := List.take_of_length_le (by simpa using h)
    rw [ht]
    refine G.nilsl intE ?_
    refine G.loop2 (σ := Value × Nat) (fun z => z.1) (fun z => i64 z.2) (fun z => sl intE z.1 (marked (hasStripe cs n wide) z.2) :: own b (arr 16 fun j => .bool (hasStripe cs n wide j)) :: L) (fun z => z.2 ≤ 16 ∧ (marked (hasStripe cs n wide) z.2).length ≤ z.2 ∧ Cells z.1 [z.1]) (fun z => 16 - z.2) (.slice none 0 0, 0) rfl rfl rfl ⟨by simp, by simp [marked_zero], cells_slice⟩ ?_
    rintro ⟨u, m⟩ ⟨hm, hml, hu⟩ J hJ
    simp only at hm hml hu hJ ⊢
    try simp (maxSteps := 2000000) only [↓RG, RP, true_and, and_true, beq_true, beq_false, Bool.true_beq, Bool.false_beq, BEq.rfl, Int.reduceEq, Int.reduceLT, Int.reduceLE, Nat.reduceEqDiff, decide_true, decide_false, Bool.not_true, Bool.not_false, Bool.and_true, Bool.true_and, Bool.and_false, Bool.false_and, Bool.or_true, Bool.true_or, Bool.or_false, Bool.false_or, Bool.not_not]
    refine G.cond (fun h => ?_) (fun h => ?_)
    · have hm2 : m < 16 := by simp at h; omega
      have nt := arr_nth (g := fun j => .bool (hasStripe cs n wide j)) hm2
      have ms := marked_succ (f := hasStripe cs n wide) (m := m)
      try simp (maxSteps := 2000000) only [↓RG, RP, true_and, and_true, beq_true, beq_false, Bool.true_beq, Bool.false_beq, BEq.rfl, Int.reduceEq, Int.reduceLT, Int.reduceLE, Nat.reduceEqDiff, decide_true, decide_false, Bool.not_true, Bool.not_false, Bool.and_true, Bool.true_and, Bool.and_false, Bool.false_and, Bool.or_true, Bool.true_or, Bool.or_false, Bool.false_or, Bool.not_not, G_aidx (n := 16) (k := m) rfl hm2]
      refine G.joini1 ?_
      refine G.cond (fun h2 => ?_) (fun h2 => ?_)
      · rw [if_pos h2] at ms
        refine G.append1 (E := intE) rfl rfl (by decide) (by omega) (by simp only [maxLen]; omega) fun y hy => ?_
        try simp (maxSteps := 2000000) only [↓RG, RP, true_and, and_true, beq_true, beq_false, Bool.true_beq, Bool.false_beq, BEq.rfl, Int.reduceEq, Int.reduceLT, Int.reduceLE, Nat.reduceEqDiff, decide_true, decide_false, Bool.not_true, Bool.not_false, Bool.and_true, Bool.true_and, Bool.and_false, Bool.false_and, Bool.or_true, Bool.true_or, Bool.or_false, Bool.false_or, Bool.not_not]
        rw [wsucc (by omega)]
        have hn := hJ (y, m + 1) ⟨by simp; omega, by rw [ms]; simp; omega, hy⟩ (by simp; omega)
        simp only [ms] at hn
        exact hn
      · rw [if_neg (by simp [h2])] at ms
        try simp (maxSteps := 2000000) only [↓RG, RP, true_and, and_true, beq_true, beq_false, Bool.true_beq, Bool.false_beq, BEq.rfl, Int.reduceEq, Int.reduceLT, Int.reduceLE, Nat.reduceEqDiff, decide_true, decide_false, Bool.not_true, Bool.not_false, Bool.and_true, Bool.true_and, Bool.and_false, Bool.false_and, Bool.or_true, Bool.true_or, Bool.or_false, Bool.false_or, Bool.not_not]
        rw [wsucc (by omega)]
        have hn := hJ (u, m + 1) ⟨by simp; omega, by rw [ms]; simp; omega, hu⟩ (by simp; omega)
        simp only [ms] at hn
        exact hn
    · have hm2 : m = 16 := by simp at h; omega
      subst hm2
      exact (hK u hu).sub

theorem lookC_isSome_mem {a : Int} : ∀ {cs : List TCell} , (lookC cs a).isSome = true → ∃ c ∈ cs, c.place = a
  | c :: cs, h => by
    unfold lookC at h
    split at h
    · rename_i e; exact ⟨c, by simp, e⟩
    · obtain ⟨d, hd, e⟩ := lookC_isSome_mem h
      exact ⟨d, by simp [hd], e⟩

set_option maxHeartbeats 1000000 in
end
end Go.Proofs.YtokbiojkpldfeaaGreat.S
