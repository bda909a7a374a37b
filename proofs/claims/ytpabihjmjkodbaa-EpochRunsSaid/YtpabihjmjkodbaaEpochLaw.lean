/-
  CHAPTER 5: the statements' own functions.
-/
import Derived.Test.YtpabihjmjkodbaaEpoch
namespace Go.Proofs.Ytpabihjmjkodbaa.S
open Go Go.Proofs
set_option linter.unusedVariables false
set_option linter.unusedSimpArgs false

section
variable {w0 : World} {L M : List Asn} {K : KV} {F : World → Prop} {C : Asn → List Asn} {b : Nat} {xs : List Int}

theorem s_law5_EpochRuns (hK : G w0 L (K (.bool true))) : G w0 L (CP Try.prog Fn.law5_EpochRuns [] K) := by
  refine C_law5_EpochRuns ?_
  unfold S_law5_EpochRuns
  refine s_epoch_New fun b => ?_
  have e2 : List.replicate (held 2 1 4).toNat (0 : Int) = [0, 0] := by decide
  rw [e2]
  try simp only [↓RG, RP, true_and, and_true, beq_true, beq_false, Bool.true_beq, Bool.false_beq, BEq.rfl, Int.reduceEq, Int.reduceLT, Int.reduceLE, Nat.reduceEqDiff, decide_true, decide_false, Bool.not_true, Bool.not_false, Bool.and_true, Bool.true_and, Bool.and_false, Bool.false_and, Bool.or_true, Bool.true_or, Bool.or_false, Bool.false_or, Bool.not_not]
  refine s_epoch_Slots_Store (fun k hk hl => ?_) (fun h => by simp [inRow] at h)
  obtain rfl : k = 0 := by omega
  simp only [List.set_cons_zero]
  refine s_epoch_Slots_Least (by simp) ?_
  have e3 : leastOf [7, 0] 0 = 7 := by decide
  simp only [e3]
  try simp only [↓RG, RP, true_and, and_true, beq_true, beq_false, Bool.true_beq, Bool.false_beq, BEq.rfl, Int.reduceEq, Int.reduceLT, Int.reduceLE, Nat.reduceEqDiff, decide_true, decide_false, Bool.not_true, Bool.not_false, Bool.and_true, Bool.true_and, Bool.and_false, Bool.false_and, Bool.or_true, Bool.true_or, Bool.or_false, Bool.false_or, Bool.not_not, Int.reduceEq]
  refine s_epoch_Slots_Passed (by simp) ?_
  have e4 : passed [7, 0] 6 = true := by decide
  have e5 : passed [7, 0] 7 = false := by decide
  try simp only [↓RG, RP, true_and, and_true, beq_true, beq_false, Bool.true_beq, Bool.false_beq, BEq.rfl, Int.reduceEq, Int.reduceLT, Int.reduceLE, Nat.reduceEqDiff, decide_true, decide_false, Bool.not_true, Bool.not_false, Bool.and_true, Bool.true_and, Bool.and_false, Bool.false_and, Bool.or_true, Bool.true_or, Bool.or_false, Bool.false_or, Bool.not_not, e4]
  refine s_epoch_Slots_Passed (by simp) ?_
  try simp only [↓RG, RP, true_and, and_true, beq_true, beq_false, Bool.true_beq, Bool.false_beq, BEq.rfl, Int.reduceEq, Int.reduceLT, Int.reduceLE, Nat.reduceEqDiff, decide_true, decide_false, Bool.not_true, Bool.not_false, Bool.and_true, Bool.true_and, Bool.and_false, Bool.false_and, Bool.or_true, Bool.true_or, Bool.or_false, Bool.false_or, Bool.not_not, e5]
  refine s_epoch_Slots_Len ?_
  try simp [↓RG, RP]
  refine s_epoch_Slots_All (by simp) fun u hu => ?_
  try simp [↓RG, RP]
  refine s_epoch_Slots_Copy (by simp) fun c => ?_
  try simp only [↓RG, RP, true_and, and_true, beq_true, beq_false, Bool.true_beq, Bool.false_beq, BEq.rfl, Int.reduceEq, Int.reduceLT, Int.reduceLE, Nat.reduceEqDiff, decide_true, decide_false, Bool.not_true, Bool.not_false, Bool.and_true, Bool.true_and, Bool.and_false, Bool.false_and, Bool.or_true, Bool.true_or, Bool.or_false, Bool.false_or, Bool.not_not]
  refine G.nilsl wordE ?_
  refine s_epoch_Passed (xs := []) (by simp) ?_
  have e6 : passed [] 5 = true := by decide
  try simp only [↓RG, RP, true_and, and_true, beq_true, beq_false, Bool.true_beq, Bool.false_beq, BEq.rfl, Int.reduceEq, Int.reduceLT, Int.reduceLE, Nat.reduceEqDiff, decide_true, decide_false, Bool.not_true, Bool.not_false, Bool.and_true, Bool.true_and, Bool.and_false, Bool.false_and, Bool.or_true, Bool.true_or, Bool.or_false, Bool.false_or, Bool.not_not, e6]
  exact hK.sub

theorem passed_mono {xs : List Int} {a b : Int} (h : a ≤ b) (hb : passed xs b = true) : passed xs a = true := by
  simp only [passed, List.all_eq_true] at *
  intro x hx
  have := hb x hx
  simp at this ⊢
  omega

theorem s_law5_EpochPassed {v : Value} {s t : Int} [r : Rd w0 L v wordE 1 xs] (hK : G w0 L (K (.bool true))) : G w0 L (CP Try.prog Fn.law5_EpochPassed [v, u64 s, u64 t] K) := by
  refine C_law5_EpochPassed ?_
  unfold S_law5_EpochPassed
  refine s_law5_EpochRuns ?_
  try simp only [fuse_and, fuse_or, fuse_step, fuse_pair, fuse_in, andP_true]
  try simp only [↓RG, RP, true_and, and_true, beq_true, beq_false, Bool.true_beq, Bool.false_beq, BEq.rfl, Int.reduceEq, Int.reduceLT, Int.reduceLE, Nat.reduceEqDiff, decide_true, decide_false, Bool.not_true, Bool.not_false, Bool.and_true, Bool.true_and, Bool.and_false, Bool.false_and, Bool.or_true, Bool.true_or, Bool.or_false, Bool.false_or, Bool.not_not]
  refine G.cond (fun h => hK) (fun h => ?_)
  have hl : xs.length ≤ 1000 := by simp at h; omega
  refine s_epoch_Passed (by omega) ?_
  refine s_epoch_Passed (by omega) ?_
  refine G.loopc2 (fun s : Bool × Nat => .bool s.1) (fun s => i64 s.2) (fun q => q.2 ≤ xs.length ∧ passed xs s = (!q.1 && passed (xs.drop q.2) s)) (fun s => xs.length - s.2) (false, 0) rfl rfl ⟨by simp, by simp⟩ ?_
  rintro ⟨late, k⟩ ⟨hk, hp⟩ J hJ
  simp only at hk hp hJ ⊢
  try simp only [↓RG, RP, true_and, and_true, beq_true, beq_false, Bool.true_beq, Bool.false_beq, BEq.rfl, Int.reduceEq, Int.reduceLT, Int.reduceLE, Nat.reduceEqDiff, decide_true, decide_false, Bool.not_true, Bool.not_false, Bool.and_true, Bool.true_and, Bool.and_false, Bool.false_and, Bool.or_true, Bool.true_or, Bool.or_false, Bool.false_or, Bool.not_not]
  refine G.cond (fun h => ?_) (fun h => ?_)
  · have hk2 : k < xs.length := by simpa using h
    have e := elem_of hk2
    have hd := List.drop_eq_getElem_cons hk2
    try simp only [↓RG, RP, true_and, and_true, beq_true, beq_false, Bool.true_beq, Bool.false_beq, BEq.rfl, Int.reduceEq, Int.reduceLT, Int.reduceLE, Nat.reduceEqDiff, decide_true, decide_false, Bool.not_true, Bool.not_false, Bool.and_true, Bool.true_and, Bool.and_false, Bool.false_and, Bool.or_true, Bool.true_or, Bool.or_false, Bool.false_or, Bool.not_not]
    refine G.any (!decide (xs[k] = 0) && decide (xs[k] ≤ s)) (fun _ K hK => ?_) ?_
    · try simp only [↓RG, RP, true_and, and_true, beq_true, beq_false, Bool.true_beq, Bool.false_beq, BEq.rfl, Int.reduceEq, Int.reduceLT, Int.reduceLE, Nat.reduceEqDiff, decide_true, decide_false, Bool.not_true, Bool.not_false, Bool.and_true, Bool.true_and, Bool.and_false, Bool.false_and, Bool.or_true, Bool.true_or, Bool.or_false, Bool.false_or, Bool.not_not]
      refine G.all (decide (xs[k] ≤ s)) (fun _ K hK => by try simp only [↓RG, RP, true_and, and_true, beq_true, beq_false, Bool.true_beq, Bool.false_beq, BEq.rfl, Int.reduceEq, Int.reduceLT, Int.reduceLE, Nat.reduceEqDiff, decide_true, decide_false, Bool.not_true, Bool.not_false, Bool.and_true, Bool.true_and, Bool.and_false, Bool.false_and, Bool.or_true, Bool.true_or, Bool.or_false, Bool.false_or, Bool.not_not]; exact hK) ?_
      exact hK
    · try simp only [↓RG, RP, true_and, and_true, beq_true, beq_false, Bool.true_beq, Bool.false_beq, BEq.rfl, Int.reduceEq, Int.reduceLT, Int.reduceLE, Nat.reduceEqDiff, decide_true, decide_false, Bool.not_true, Bool.not_false, Bool.and_true, Bool.true_and, Bool.and_false, Bool.false_and, Bool.or_true, Bool.true_or, Bool.or_false, Bool.false_or, Bool.not_not]
      rw [wsucc (by omega)]
      refine hJ (_, k + 1) ⟨by simp; omega, ?_⟩ (by simp; omega)
      rw [hp, hd, passed_cons]
      cases late <;> simp
  · have : xs.drop k = [] := List.drop_eq_nil_of_le (by simpa using h)
    have e : passed xs s = !late := by rw [hp, this]; simp [passed]
    try simp only [↓RG, RP, true_and, and_true, beq_true, beq_false, Bool.true_beq, Bool.false_beq, BEq.rfl, Int.reduceEq, Int.reduceLT, Int.reduceLE, Nat.reduceEqDiff, decide_true, decide_false, Bool.not_true, Bool.not_false, Bool.and_true, Bool.true_and, Bool.and_false, Bool.false_and, Bool.or_true, Bool.true_or, Bool.or_false, Bool.false_or, Bool.not_not, e, BEq.rfl]
    have e2 : (decide (t < s) || (!passed xs t || !late)) = true := by
      rw [← e]
      by_cases h1 : t < s
      · simp [h1]
      · have := passed_mono (xs := xs) (a := s) (b := t) (by omega)
        cases h2 : passed xs t
        · simp
        · simp [this h2]
    try simp only [↓RG, RP, true_and, and_true, beq_true, beq_false, Bool.true_beq, Bool.false_beq, BEq.rfl, Int.reduceEq, Int.reduceLT, Int.reduceLE, Nat.reduceEqDiff, decide_true, decide_false, Bool.not_true, Bool.not_false, Bool.and_true, Bool.true_and, Bool.and_false, Bool.false_and, Bool.or_true, Bool.true_or, Bool.or_false, Bool.false_or, Bool.not_not, e2, Bool.or_assoc]
    refine G.nilsl wordE ?_
    refine s_epoch_Passed (xs := []) (by simp) ?_
    have e6 : passed [] s = true := rfl
    try simp only [↓RG, RP, true_and, and_true, beq_true, beq_false, Bool.true_beq, Bool.false_beq, BEq.rfl, Int.reduceEq, Int.reduceLT, Int.reduceLE, Nat.reduceEqDiff, decide_true, decide_false, Bool.not_true, Bool.not_false, Bool.and_true, Bool.true_and, Bool.and_false, Bool.false_and, Bool.or_true, Bool.true_or, Bool.or_false, Bool.false_or, Bool.not_not, e6]
    exact hK.sub

theorem s_law5_do {v l : Value} {qs : List AskHeap} [a : Arg w0 l askHeapE qs] (hx : xs.length ≤ 1000) (hK : ∀ ys, ys.length = xs.length → G w0 (ob WordsR b ys :: sl wordE v ys :: M) (K (.bool true))) :
    G w0 (ob WordsR b xs :: sl wordE v xs :: M) (CP Try.prog Fn.law5_do [ptr b 0, v, l] K) := by
  refine C_law5_do ?_
  unfold S_law5_do
  refine G.loop1 (fun s : Nat × List Int => i64 s.1) (fun s => ob WordsR b s.2 :: sl wordE v s.2 :: M) (fun s => s.1 ≤ 60 ∧ s.2.length = xs.length) (fun s => 60 - s.1) (0, xs) rfl rfl ⟨by simp, rfl⟩ ?_
  rintro ⟨k, ys⟩ ⟨hk, hy⟩ J hJ
  simp only at hk hy hJ ⊢
  try simp only [fuse_and, fuse_or, fuse_step, fuse_pair, fuse_in, andP_true]
  try simp only [↓RG, RP, true_and, and_true, beq_true, beq_false, Bool.true_beq, Bool.false_beq, BEq.rfl, Int.reduceEq, Int.reduceLT, Int.reduceLE, Nat.reduceEqDiff, decide_true, decide_false, Bool.not_true, Bool.not_false, Bool.and_true, Bool.true_and, Bool.and_false, Bool.false_and, Bool.or_true, Bool.true_or, Bool.or_false, Bool.false_or, Bool.not_not]
  refine G.cond (fun h => ?_) (fun h => ?_)
  · have hk2 : k < qs.length ∧ k < 60 := by simp at h; omega
    obtain ⟨q, e⟩ : ∃ q, Elem qs k q := ⟨_, elem_of hk2.1⟩
    obtain ⟨st, pl, x⟩ := q
    try simp only [↓RG, RP, true_and, and_true, beq_true, beq_false, Bool.true_beq, Bool.false_beq, BEq.rfl, Int.reduceEq, Int.reduceLT, Int.reduceLE, Nat.reduceEqDiff, decide_true, decide_false, Bool.not_true, Bool.not_false, Bool.and_true, Bool.true_and, Bool.and_false, Bool.false_and, Bool.or_true, Bool.true_or, Bool.or_false, Bool.false_or, Bool.not_not]
    refine G.new fun p => ?_
    try simp only [↓RG, RP, true_and, and_true, beq_true, beq_false, Bool.true_beq, Bool.false_beq, BEq.rfl, Int.reduceEq, Int.reduceLT, Int.reduceLE, Nat.reduceEqDiff, decide_true, decide_false, Bool.not_true, Bool.not_false, Bool.and_true, Bool.true_and, Bool.and_false, Bool.false_and, Bool.or_true, Bool.true_or, Bool.or_false, Bool.false_or, Bool.not_not]
    refine G.all (decide (pl < ys.length)) (fun _ K hK => by try simp only [↓RG, RP, true_and, and_true, beq_true, beq_false, Bool.true_beq, Bool.false_beq, BEq.rfl, Int.reduceEq, Int.reduceLT, Int.reduceLE, Nat.reduceEqDiff, decide_true, decide_false, Bool.not_true, Bool.not_false, Bool.and_true, Bool.true_and, Bool.and_false, Bool.false_and, Bool.or_true, Bool.true_or, Bool.or_false, Bool.false_or, Bool.not_not]; exact hK) ?_
    have next : ∀ zs : List Int, zs.length = ys.length → G w0 (own p [.bool st, i64 pl, u64 x] :: ob WordsR b zs :: sl wordE v zs :: M) (J (.int .i64 (IntKind.wrap .i64 ((k : Int) + 1)))) := fun zs hz => by
      rw [wsucc (by omega)]
      exact (hJ (k + 1, zs) ⟨by simp; omega, by simp; omega⟩ (by simp; omega)).sub
    have hin : (decide (0 ≤ pl) && decide (pl < ys.length)) = inRow pl ys := rfl
    simp only [hin]
    try simp only [↓RG, RP, true_and, and_true, beq_true, beq_false, Bool.true_beq, Bool.false_beq, BEq.rfl, Int.reduceEq, Int.reduceLT, Int.reduceLE, Nat.reduceEqDiff, decide_true, decide_false, Bool.not_true, Bool.not_false, Bool.and_true, Bool.true_and, Bool.and_false, Bool.false_and, Bool.or_true, Bool.true_or, Bool.or_false, Bool.false_or, Bool.not_not]
    refine G.join0 (σ := List Int) (fun zs => own p [.bool st, i64 pl, u64 x] :: ob WordsR b zs :: sl wordE v zs :: M) (fun zs => zs.length = ys.length) (fun zs hz => ?_) (fun J2 hJ2 => ?_)
    · -- what is loaded; all slots
      have hz2 : inRow pl zs = inRow pl ys := by simp [inRow, hz]
      try simp only [↓RG, RP, true_and, and_true, beq_true, beq_false, Bool.true_beq, Bool.false_beq, BEq.rfl, Int.reduceEq, Int.reduceLT, Int.reduceLE, Nat.reduceEqDiff, decide_true, decide_false, Bool.not_true, Bool.not_false, Bool.and_true, Bool.true_and, Bool.and_false, Bool.false_and, Bool.or_true, Bool.true_or, Bool.or_false, Bool.false_or, Bool.not_not]
      refine s_epoch_Slots_Load (xs := zs) (fun n hn hl => ?_) (fun h => ?_)
      have hb : inRow pl ys = true := by simp [inRow]; omega
      have e := elem_of hl
      have e2 : zs.getD n 0 = zs[n] := by simp [hl]
      have ix : IxI pl n := ⟨hn⟩
      try simp only [↓RG, RP, true_and, and_true, beq_true, beq_false, Bool.true_beq, Bool.false_beq, BEq.rfl, Int.reduceEq, Int.reduceLT, Int.reduceLE, Nat.reduceEqDiff, decide_true, decide_false, Bool.not_true, Bool.not_false, Bool.and_true, Bool.true_and, Bool.and_false, Bool.false_and, Bool.or_true, Bool.true_or, Bool.or_false, Bool.false_or, Bool.not_not, hb, e2]
      rotate_left
      try simp only [↓RG, RP, true_and, and_true, beq_true, beq_false, Bool.true_beq, Bool.false_beq, BEq.rfl, Int.reduceEq, Int.reduceLT, Int.reduceLE, Nat.reduceEqDiff, decide_true, decide_false, Bool.not_true, Bool.not_false, Bool.and_true, Bool.true_and, Bool.and_false, Bool.false_and, Bool.or_true, Bool.true_or, Bool.or_false, Bool.false_or, Bool.not_not, hz2 ▸ h]
      all_goals
        refine G.loopc3 (fun s : Int × Nat => u64 s.1) (fun s => .bool (!decide (s.1 = 0))) (fun s => i64 s.2) (fun s => s.2 ≤ zs.length ∧ leastOf zs 0 = leastOf (zs.drop s.2) s.1) (fun s => zs.length - s.2) (0, 0) rfl rfl rfl ⟨by simp, by simp⟩ ?_
        rintro ⟨m, j⟩ ⟨hj, hp⟩ J3 hJ3
        simp only at hj hp hJ3 ⊢
        try simp only [↓RG, RP, true_and, and_true, beq_true, beq_false, Bool.true_beq, Bool.false_beq, BEq.rfl, Int.reduceEq, Int.reduceLT, Int.reduceLE, Nat.reduceEqDiff, decide_true, decide_false, Bool.not_true, Bool.not_false, Bool.and_true, Bool.true_and, Bool.and_false, Bool.false_and, Bool.or_true, Bool.true_or, Bool.or_false, Bool.false_or, Bool.not_not]
        refine G.cond (fun h => ?_) (fun h => ?_)
        · have hk2 : j < zs.length := by simpa using h
          have e := elem_of hk2
          have hd := List.drop_eq_getElem_cons hk2
          rw [hd, leastOf] at hp
          try simp only [↓RG, RP, true_and, and_true, beq_true, beq_false, Bool.true_beq, Bool.false_beq, BEq.rfl, Int.reduceEq, Int.reduceLT, Int.reduceLE, Nat.reduceEqDiff, decide_true, decide_false, Bool.not_true, Bool.not_false, Bool.and_true, Bool.true_and, Bool.and_false, Bool.false_and, Bool.or_true, Bool.true_or, Bool.or_false, Bool.false_or, Bool.not_not]
          refine G.all (decide (m = 0) || decide (zs[j] < m)) (fun _ K hK => ?_) ?_
          · try simp only [↓RG, RP, true_and, and_true, beq_true, beq_false, Bool.true_beq, Bool.false_beq, BEq.rfl, Int.reduceEq, Int.reduceLT, Int.reduceLE, Nat.reduceEqDiff, decide_true, decide_false, Bool.not_true, Bool.not_false, Bool.and_true, Bool.true_and, Bool.and_false, Bool.false_and, Bool.or_true, Bool.true_or, Bool.or_false, Bool.false_or, Bool.not_not]
            refine G.any (decide (zs[j] < m)) (fun _ K hK => by try simp only [↓RG, RP, true_and, and_true, beq_true, beq_false, Bool.true_beq, Bool.false_beq, BEq.rfl, Int.reduceEq, Int.reduceLT, Int.reduceLE, Nat.reduceEqDiff, decide_true, decide_false, Bool.not_true, Bool.not_false, Bool.and_true, Bool.true_and, Bool.and_false, Bool.false_and, Bool.or_true, Bool.true_or, Bool.or_false, Bool.false_or, Bool.not_not]; exact hK) hK
          refine G.joinc2 (fun m' : Int => u64 m') (fun m' => .bool (!decide (m' = 0))) (fun m' => leastOf zs 0 = leastOf (zs.drop (j + 1)) m') (fun m' hm' => ?_) (fun J2 hJ2 => ?_)
          · try simp only [↓RG, RP, true_and, and_true, beq_true, beq_false, Bool.true_beq, Bool.false_beq, BEq.rfl, Int.reduceEq, Int.reduceLT, Int.reduceLE, Nat.reduceEqDiff, decide_true, decide_false, Bool.not_true, Bool.not_false, Bool.and_true, Bool.true_and, Bool.and_false, Bool.false_and, Bool.or_true, Bool.true_or, Bool.or_false, Bool.false_or, Bool.not_not]
            rw [wsucc (by omega)]
            exact hJ3 (m', j + 1) ⟨by simp; omega, hm'⟩ (by simp; omega)
          · refine G.cond (fun h => ?_) (fun h => ?_)
            · rw [if_pos (by simpa using h)] at hp
              have h0 : ¬ zs[j] = 0 := by simp at h; exact h.1
              have := hJ2 _ hp
              try simp only [↓RG, RP, true_and, and_true, beq_true, beq_false, Bool.true_beq, Bool.false_beq, BEq.rfl, Int.reduceEq, Int.reduceLT, Int.reduceLE, Nat.reduceEqDiff, decide_true, decide_false, Bool.not_true, Bool.not_false, Bool.and_true, Bool.true_and, Bool.and_false, Bool.false_and, Bool.or_true, Bool.true_or, Bool.or_false, Bool.false_or, Bool.not_not]
              simpa [h0] using this
            · rw [if_neg (by simpa using h)] at hp
              exact hJ2 _ hp
        · have : zs.drop j = [] := List.drop_eq_nil_of_le (by simpa using h)
          rw [this, leastOf] at hp
          try simp only [↓RG, RP, true_and, and_true, beq_true, beq_false, Bool.true_beq, Bool.false_beq, BEq.rfl, Int.reduceEq, Int.reduceLT, Int.reduceLE, Nat.reduceEqDiff, decide_true, decide_false, Bool.not_true, Bool.not_false, Bool.and_true, Bool.true_and, Bool.and_false, Bool.false_and, Bool.or_true, Bool.true_or, Bool.or_false, Bool.false_or, Bool.not_not]
          refine s_epoch_Slots_Least (xs := zs) (by omega) ?_
          try simp only [↓RG, RP, true_and, and_true, beq_true, beq_false, Bool.true_beq, Bool.false_beq, BEq.rfl, Int.reduceEq, Int.reduceLT, Int.reduceLE, Nat.reduceEqDiff, decide_true, decide_false, Bool.not_true, Bool.not_false, Bool.and_true, Bool.true_and, Bool.and_false, Bool.false_and, Bool.or_true, Bool.true_or, Bool.or_false, Bool.false_or, Bool.not_not]
          refine G.drew ?_
          try simp only [↓RG, RP, true_and, and_true, beq_true, beq_false, Bool.true_beq, Bool.false_beq, BEq.rfl, Int.reduceEq, Int.reduceLT, Int.reduceLE, Nat.reduceEqDiff, decide_true, decide_false, Bool.not_true, Bool.not_false, Bool.and_true, Bool.true_and, Bool.and_false, Bool.false_and, Bool.or_true, Bool.true_or, Bool.or_false, Bool.false_or, Bool.not_not, hp]
          refine s_epoch_Slots_Passed (xs := zs) (by omega) ?_
          try simp only [↓RG, RP, true_and, and_true, beq_true, beq_false, Bool.true_beq, Bool.false_beq, BEq.rfl, Int.reduceEq, Int.reduceLT, Int.reduceLE, Nat.reduceEqDiff, decide_true, decide_false, Bool.not_true, Bool.not_false, Bool.and_true, Bool.true_and, Bool.and_false, Bool.false_and, Bool.or_true, Bool.true_or, Bool.or_false, Bool.false_or, Bool.not_not]
          refine s_ref1_Passed (by omega) ?_
          try simp only [↓RG, RP, true_and, and_true, beq_true, beq_false, Bool.true_beq, Bool.false_beq, BEq.rfl, Int.reduceEq, Int.reduceLT, Int.reduceLE, Nat.reduceEqDiff, decide_true, decide_false, Bool.not_true, Bool.not_false, Bool.and_true, Bool.true_and, Bool.and_false, Bool.false_and, Bool.or_true, Bool.true_or, Bool.or_false, Bool.false_or, Bool.not_not]
          refine s_epoch_Slots_All (xs := zs) (by omega) fun u hu => ?_
          try simp only [↓RG, RP, true_and, and_true, beq_true, beq_false, Bool.true_beq, Bool.false_beq, BEq.rfl, Int.reduceEq, Int.reduceLT, Int.reduceLE, Nat.reduceEqDiff, decide_true, decide_false, Bool.not_true, Bool.not_false, Bool.and_true, Bool.true_and, Bool.and_false, Bool.false_and, Bool.or_true, Bool.true_or, Bool.or_false, Bool.false_or, Bool.not_not]
          refine s_book_Same_uint64 (by omega) ?_
          try simp only [↓RG, RP, true_and, and_true, beq_true, beq_false, Bool.true_beq, Bool.false_beq, BEq.rfl, Int.reduceEq, Int.reduceLT, Int.reduceLE, Nat.reduceEqDiff, decide_true, decide_false, Bool.not_true, Bool.not_false, Bool.and_true, Bool.true_and, Bool.and_false, Bool.false_and, Bool.or_true, Bool.true_or, Bool.or_false, Bool.false_or, Bool.not_not]
          refine s_epoch_Slots_Len (xs := zs) ?_
          try simp only [↓RG, RP, true_and, and_true, beq_true, beq_false, Bool.true_beq, Bool.false_beq, BEq.rfl, Int.reduceEq, Int.reduceLT, Int.reduceLE, Nat.reduceEqDiff, decide_true, decide_false, Bool.not_true, Bool.not_false, Bool.and_true, Bool.true_and, Bool.and_false, Bool.false_and, Bool.or_true, Bool.true_or, Bool.or_false, Bool.false_or, Bool.not_not]
          exact (next zs hz).sub
    · cases st
      · try simp only [↓RG, RP, true_and, and_true, beq_true, beq_false, Bool.true_beq, Bool.false_beq, BEq.rfl, Int.reduceEq, Int.reduceLT, Int.reduceLE, Nat.reduceEqDiff, decide_true, decide_false, Bool.not_true, Bool.not_false, Bool.and_true, Bool.true_and, Bool.and_false, Bool.false_and, Bool.or_true, Bool.true_or, Bool.or_false, Bool.false_or, Bool.not_not]
        exact hJ2 ys rfl
      · try simp only [↓RG, RP, true_and, and_true, beq_true, beq_false, Bool.true_beq, Bool.false_beq, BEq.rfl, Int.reduceEq, Int.reduceLT, Int.reduceLE, Nat.reduceEqDiff, decide_true, decide_false, Bool.not_true, Bool.not_false, Bool.and_true, Bool.true_and, Bool.and_false, Bool.false_and, Bool.or_true, Bool.true_or, Bool.or_false, Bool.false_or, Bool.not_not]
        refine s_epoch_Slots_Store (fun n hn hl => ?_) (fun h => ?_)
        · have hb : inRow pl ys = true := by simp [inRow]; omega
          have e := elem_of hl
          try simp only [↓RG, RP, true_and, and_true, beq_true, beq_false, Bool.true_beq, Bool.false_beq, BEq.rfl, Int.reduceEq, Int.reduceLT, Int.reduceLE, Nat.reduceEqDiff, decide_true, decide_false, Bool.not_true, Bool.not_false, Bool.and_true, Bool.true_and, Bool.and_false, Bool.false_and, Bool.or_true, Bool.true_or, Bool.or_false, Bool.false_or, Bool.not_not, hb, BEq.rfl]
          refine G.joini0 ?_
          subst hn
          try simp only [↓RG, RP, true_and, and_true, beq_true, beq_false, Bool.true_beq, Bool.false_beq, BEq.rfl, Int.reduceEq, Int.reduceLT, Int.reduceLE, Nat.reduceEqDiff, decide_true, decide_false, Bool.not_true, Bool.not_false, Bool.and_true, Bool.true_and, Bool.and_false, Bool.false_and, Bool.or_true, Bool.true_or, Bool.or_false, Bool.false_or, Bool.not_not]
          exact hJ2 _ (by simp)
        · try simp only [↓RG, RP, true_and, and_true, beq_true, beq_false, Bool.true_beq, Bool.false_beq, BEq.rfl, Int.reduceEq, Int.reduceLT, Int.reduceLE, Nat.reduceEqDiff, decide_true, decide_false, Bool.not_true, Bool.not_false, Bool.and_true, Bool.true_and, Bool.and_false, Bool.false_and, Bool.or_true, Bool.true_or, Bool.or_false, Bool.false_or, Bool.not_not, h, BEq.rfl]
          refine G.joini0 ?_
          try simp only [↓RG, RP, true_and, and_true, beq_true, beq_false, Bool.true_beq, Bool.false_beq, BEq.rfl, Int.reduceEq, Int.reduceLT, Int.reduceLE, Nat.reduceEqDiff, decide_true, decide_false, Bool.not_true, Bool.not_false, Bool.and_true, Bool.true_and, Bool.and_false, Bool.false_and, Bool.or_true, Bool.true_or, Bool.or_false, Bool.false_or, Bool.not_not]
          exact hJ2 ys rfl
  · exact hK ys hy

theorem s_law5_EpochPlays {n : Int} {l : Value} {qs : List AskHeap} [a : Arg w0 l askHeapE qs] (hK : G w0 L (K (.bool true))) : G w0 L (CP Try.prog Fn.law5_EpochPlays [i64 n, l] K) := by
  refine C_law5_EpochPlays ?_
  unfold S_law5_EpochPlays
  refine s_law5_EpochRuns ?_
  try simp only [↓RG, RP, true_and, and_true, beq_true, beq_false, Bool.true_beq, Bool.false_beq, BEq.rfl, Int.reduceEq, Int.reduceLT, Int.reduceLE, Nat.reduceEqDiff, decide_true, decide_false, Bool.not_true, Bool.not_false, Bool.and_true, Bool.true_and, Bool.and_false, Bool.false_and, Bool.or_true, Bool.true_or, Bool.or_false, Bool.false_or, Bool.not_not]
  refine s_epoch_New fun b => ?_
  try simp only [↓RG, RP, true_and, and_true, beq_true, beq_false, Bool.true_beq, Bool.false_beq, BEq.rfl, Int.reduceEq, Int.reduceLT, Int.reduceLE, Nat.reduceEqDiff, decide_true, decide_false, Bool.not_true, Bool.not_false, Bool.and_true, Bool.true_and, Bool.and_false, Bool.false_and, Bool.or_true, Bool.true_or, Bool.or_false, Bool.false_or, Bool.not_not]
  refine s_ref1_Held ?_
  have hb := held_le (n := n) (show (1 : Int) ≤ 4 by omega)
  have eh : i64 (held n 1 4) = i64 ((held n 1 4).toNat : Nat) := by rw [Int.toNat_of_nonneg (by omega)]
  try simp only [↓RG, RP, true_and, and_true, beq_true, beq_false, Bool.true_beq, Bool.false_beq, BEq.rfl, Int.reduceEq, Int.reduceLT, Int.reduceLE, Nat.reduceEqDiff, decide_true, decide_false, Bool.not_true, Bool.not_false, Bool.and_true, Bool.true_and, Bool.and_false, Bool.false_and, Bool.or_true, Bool.true_or, Bool.or_false, Bool.false_or, Bool.not_not, eh]
  refine G.make wordE 0 rfl (by simp only [maxLen]; omega) (by omega) fun v hv => ?_
  refine G.take1 WordsR b ?_
  refine s_law5_do (qs := qs) (by simp; omega) fun ys hy => ?_
  try simp only [↓RG, RP, true_and, and_true, beq_true, beq_false, Bool.true_beq, Bool.false_beq, BEq.rfl, Int.reduceEq, Int.reduceLT, Int.reduceLE, Nat.reduceEqDiff, decide_true, decide_false, Bool.not_true, Bool.not_false, Bool.and_true, Bool.true_and, Bool.and_false, Bool.false_and, Bool.or_true, Bool.true_or, Bool.or_false, Bool.false_or, Bool.not_not]
  exact hK.sub

theorem s_law5_EpochCopies {n : Int} {l1 l2 l3 : Value} {q1 q2 q3 : List AskHeap} [a1 : Arg w0 l1 askHeapE q1] [a2 : Arg w0 l2 askHeapE q2] [a3 : Arg w0 l3 askHeapE q3] (hK : G w0 L (K (.bool true))) :
    G w0 L (CP Try.prog Fn.law5_EpochCopies [i64 n, l1, l2, l3] K) := by
  refine C_law5_EpochCopies ?_
  unfold S_law5_EpochCopies
  refine s_law5_EpochRuns ?_
  try simp only [↓RG, RP, true_and, and_true, beq_true, beq_false, Bool.true_beq, Bool.false_beq, BEq.rfl, Int.reduceEq, Int.reduceLT, Int.reduceLE, Nat.reduceEqDiff, decide_true, decide_false, Bool.not_true, Bool.not_false, Bool.and_true, Bool.true_and, Bool.and_false, Bool.false_and, Bool.or_true, Bool.true_or, Bool.or_false, Bool.false_or, Bool.not_not]
  refine s_epoch_New fun b => ?_
  refine s_ref1_Held ?_
  have hb := held_le (n := n) (show (1 : Int) ≤ 4 by omega)
  have eh : i64 (held n 1 4) = i64 ((held n 1 4).toNat : Nat) := by rw [Int.toNat_of_nonneg (by omega)]
  simp only [eh]
  refine G.make wordE 0 rfl (by simp only [maxLen]; omega) (by omega) fun v hv => ?_
  try simp only [↓RG, RP, true_and, and_true, beq_true, beq_false, Bool.true_beq, Bool.false_beq, BEq.rfl, Int.reduceEq, Int.reduceLT, Int.reduceLE, Nat.reduceEqDiff, decide_true, decide_false, Bool.not_true, Bool.not_false, Bool.and_true, Bool.true_and, Bool.and_false, Bool.false_and, Bool.or_true, Bool.true_or, Bool.or_false, Bool.false_or, Bool.not_not]
  refine G.take1 WordsR b ?_
  refine s_law5_do (qs := q1) (by simp; omega) fun ys hy => ?_
  simp only [List.length_replicate] at hy
  try simp only [↓RG, RP, true_and, and_true, beq_true, beq_false, Bool.true_beq, Bool.false_beq, BEq.rfl, Int.reduceEq, Int.reduceLT, Int.reduceLE, Nat.reduceEqDiff, decide_true, decide_false, Bool.not_true, Bool.not_false, Bool.and_true, Bool.true_and, Bool.and_false, Bool.false_and, Bool.or_true, Bool.true_or, Bool.or_false, Bool.false_or, Bool.not_not]
  refine s_epoch_Slots_Copy (xs := ys) (by omega) fun c => ?_
  refine G.nilsl wordE ?_
  refine G.append (xs := []) (ys := ys) (by simp; omega) (by simp [maxLen]; omega) fun u hu => ?_
  simp only [List.nil_append]
  try simp only [↓RG, RP, true_and, and_true, beq_true, beq_false, Bool.true_beq, Bool.false_beq, BEq.rfl, Int.reduceEq, Int.reduceLT, Int.reduceLE, Nat.reduceEqDiff, decide_true, decide_false, Bool.not_true, Bool.not_false, Bool.and_true, Bool.true_and, Bool.and_false, Bool.false_and, Bool.or_true, Bool.true_or, Bool.or_false, Bool.false_or, Bool.not_not]
  refine G.take1 WordsR c ?_
  refine s_law5_do (qs := q2) (by omega) fun zs hz => ?_
  try simp only [↓RG, RP, true_and, and_true, beq_true, beq_false, Bool.true_beq, Bool.false_beq, BEq.rfl, Int.reduceEq, Int.reduceLT, Int.reduceLE, Nat.reduceEqDiff, decide_true, decide_false, Bool.not_true, Bool.not_false, Bool.and_true, Bool.true_and, Bool.and_false, Bool.false_and, Bool.or_true, Bool.true_or, Bool.or_false, Bool.false_or, Bool.not_not]
  refine G.take1 (slR wordE) v ?_
  refine G.take1 WordsR b ?_
  refine s_law5_do (qs := q3) (by omega) fun ys2 hy2 => ?_
  try simp only [↓RG, RP, true_and, and_true, beq_true, beq_false, Bool.true_beq, Bool.false_beq, BEq.rfl, Int.reduceEq, Int.reduceLT, Int.reduceLE, Nat.reduceEqDiff, decide_true, decide_false, Bool.not_true, Bool.not_false, Bool.and_true, Bool.true_and, Bool.and_false, Bool.false_and, Bool.or_true, Bool.true_or, Bool.or_false, Bool.false_or, Bool.not_not]
  refine s_epoch_Slots_All (xs := zs) (by omega) fun t ht => ?_
  try simp only [↓RG, RP, true_and, and_true, beq_true, beq_false, Bool.true_beq, Bool.false_beq, BEq.rfl, Int.reduceEq, Int.reduceLT, Int.reduceLE, Nat.reduceEqDiff, decide_true, decide_false, Bool.not_true, Bool.not_false, Bool.and_true, Bool.true_and, Bool.and_false, Bool.false_and, Bool.or_true, Bool.true_or, Bool.or_false, Bool.false_or, Bool.not_not]
  refine s_book_Same_uint64 (by omega) ?_
  try simp only [↓RG, RP, true_and, and_true, beq_true, beq_false, Bool.true_beq, Bool.false_beq, BEq.rfl, Int.reduceEq, Int.reduceLT, Int.reduceLE, Nat.reduceEqDiff, decide_true, decide_false, Bool.not_true, Bool.not_false, Bool.and_true, Bool.true_and, Bool.and_false, Bool.false_and, Bool.or_true, Bool.true_or, Bool.or_false, Bool.false_or, Bool.not_not]
  exact hK.sub

end
end Go.Proofs.Ytpabihjmjkodbaa.S
