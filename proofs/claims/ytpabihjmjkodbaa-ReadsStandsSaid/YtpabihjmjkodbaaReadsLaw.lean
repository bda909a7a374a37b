/-
  CHAPTER 7: the statements' own functions.
-/
import Derived.Test.YtpabihjmjkodbaaReads
namespace Go.Proofs.Ytpabihjmjkodbaa.S
open Go Go.Proofs
set_option linter.unusedVariables false
set_option linter.unusedSimpArgs false

section
variable {w0 : World} {L M : List Asn} {K : KV} {F : World → Prop} {C : Asn → List Asn} {b c : Nat} {m : Int} {xs : List TSeen}

theorem s_law7_ReadsRuns (hK : G w0 L (K (.bool true))) : G w0 L (CP Try.prog Fn.law7_ReadsRuns [] K) := by
  refine C_law7_ReadsRuns ?_
  unfold S_law7_ReadsRuns
  refine s_reads_New fun b => ?_
  have e1 : held 4 1 16 = 4 := by decide
  rw [e1]
  try simp only [↓RG, RP, true_and, and_true, beq_true, beq_false, Bool.true_beq, Bool.false_beq, BEq.rfl, Int.reduceEq, Int.reduceLT, Int.reduceLE, Nat.reduceEqDiff, decide_true, decide_false, Bool.not_true, Bool.not_false, Bool.and_true, Bool.true_and, Bool.and_false, Bool.false_and, Bool.or_true, Bool.true_or, Bool.or_false, Bool.false_or, Bool.not_not]
  refine s_reads_Reads_Add (x := ⟨3, 5⟩) (by simp) ?_
  have e2 : addSeen 4 [] ⟨3, 5⟩ = [⟨3, 5⟩] := by decide
  have e3 : addErr 4 [] ⟨3, 5⟩ = 0 := by decide
  rw [e2, e3]
  try simp only [↓RG, RP, true_and, and_true, beq_true, beq_false, Bool.true_beq, Bool.false_beq, BEq.rfl, Int.reduceEq, Int.reduceLT, Int.reduceLE, Nat.reduceEqDiff, decide_true, decide_false, Bool.not_true, Bool.not_false, Bool.and_true, Bool.true_and, Bool.and_false, Bool.false_and, Bool.or_true, Bool.true_or, Bool.or_false, Bool.false_or, Bool.not_not]
  refine s_reads_Reads_Add (x := ⟨3, 5⟩) (by simp) ?_
  have e4 : addSeen 4 [⟨3, 5⟩] ⟨3, 5⟩ = [⟨3, 5⟩] := by decide
  have e5 : addErr 4 [⟨3, 5⟩] ⟨3, 5⟩ = 0 := by decide
  rw [e4, e5]
  try simp only [↓RG, RP, true_and, and_true, beq_true, beq_false, Bool.true_beq, Bool.false_beq, BEq.rfl, Int.reduceEq, Int.reduceLT, Int.reduceLE, Nat.reduceEqDiff, decide_true, decide_false, Bool.not_true, Bool.not_false, Bool.and_true, Bool.true_and, Bool.and_false, Bool.false_and, Bool.or_true, Bool.true_or, Bool.or_false, Bool.false_or, Bool.not_not]
  refine s_reads_Reads_Add (x := ⟨3, 6⟩) (by simp) ?_
  have e6 : addSeen 4 [⟨3, 5⟩] ⟨3, 6⟩ = [⟨3, 5⟩] := by decide
  have e7 : addErr 4 [⟨3, 5⟩] ⟨3, 6⟩ = 14 := by decide
  rw [e6, e7]
  refine s_reads_Reads_Get (xs := [⟨3, 5⟩]) (by simp) ?_
  have e8 : seenAt [⟨3, 5⟩] 3 = some 5 := by decide
  rw [e8]
  try simp [↓RG, RP]
  refine s_reads_Reads_Len ?_
  try simp [↓RG, RP]
  refine s_reads_Reads_All (by simp) fun u hu => ?_
  try simp [↓RG, RP]
  refine G.nilsl tLockE ?_
  refine s_reads_Reads_Stands (ls := []) (by simp) (by simp) ?_
  have e9 : stands [⟨3, 5⟩] [] = false := by decide
  rw [e9]
  try simp [↓RG, RP]
  exact hK.sub

theorem s_law7_near {x : TSeen} {j : Nat} (hK : ∀ y : TSeen, G w0 L (K (.agg #[i64 y.stripe, u64 y.version]))) : G w0 L (CP Try.prog Fn.law7_near [.agg #[i64 x.stripe, u64 x.version], i64 j] K) := by
  refine C_law7_near ?_
  unfold S_law7_near
  refine G.box fun p => ?_
  refine G.new fun q => ?_
  try simp only [↓RG, RP, true_and, and_true, beq_true, beq_false, Bool.true_beq, Bool.false_beq, BEq.rfl, Int.reduceEq, Int.reduceLT, Int.reduceLE, Nat.reduceEqDiff, decide_true, decide_false, Bool.not_true, Bool.not_false, Bool.and_true, Bool.true_and, Bool.and_false, Bool.false_and, Bool.or_true, Bool.true_or, Bool.or_false, Bool.false_or, Bool.not_not]
  refine G.cond (fun h => ?_) (fun h => ?_)
  · try simp only [↓RG, RP, true_and, and_true, beq_true, beq_false, Bool.true_beq, Bool.false_beq, BEq.rfl, Int.reduceEq, Int.reduceLT, Int.reduceLE, Nat.reduceEqDiff, decide_true, decide_false, Bool.not_true, Bool.not_false, Bool.and_true, Bool.true_and, Bool.and_false, Bool.false_and, Bool.or_true, Bool.true_or, Bool.or_false, Bool.false_or, Bool.not_not]
    exact (hK x).sub
  · refine G.drew ?_
    try simp only [↓RG, RP, true_and, and_true, beq_true, beq_false, Bool.true_beq, Bool.false_beq, BEq.rfl, Int.reduceEq, Int.reduceLT, Int.reduceLE, Nat.reduceEqDiff, decide_true, decide_false, Bool.not_true, Bool.not_false, Bool.and_true, Bool.true_and, Bool.and_false, Bool.false_and, Bool.or_true, Bool.true_or, Bool.or_false, Bool.false_or, Bool.not_not]
    refine s_book_Within (by omega) (by omega) (by omega) (by omega) ?_
    try simp only [↓RG, RP, true_and, and_true, beq_true, beq_false, Bool.true_beq, Bool.false_beq, BEq.rfl, Int.reduceEq, Int.reduceLT, Int.reduceLE, Nat.reduceEqDiff, decide_true, decide_false, Bool.not_true, Bool.not_false, Bool.and_true, Bool.true_and, Bool.and_false, Bool.false_and, Bool.or_true, Bool.true_or, Bool.or_false, Bool.false_or, Bool.not_not]
    exact (hK ⟨_, _⟩).sub

/-- what a read set holds: its stripes are such, each once; it fits -/
structure SeenOk (m : Int) (xs : List TSeen) : Prop where
  len : (xs.length : Int) ≤ m
  pos : ∀ x ∈ xs, 0 ≤ x.stripe ∧ x.stripe < 16
  once : xs.Pairwise fun x y => x.stripe ≠ y.stripe

theorem seenAt_none {xs : List TSeen} {k : Int} (h : seenAt xs k = none) : ∀ x ∈ xs, x.stripe ≠ k := by
  intro x hx e
  unfold seenAt at h
  simp at h
  exact h x hx e

theorem SeenOk.add {x : TSeen} (h : SeenOk m xs) : SeenOk m (addSeen m xs x) := by
  unfold addSeen
  split
  · exact h
  · rename_i h1
    split
    · exact h
    · rename_i h2
      split
      · exact h
      · rename_i h3
        have hl := h.len
        refine ⟨by simp; omega, fun y hy => ?_, ?_⟩
        · rcases List.mem_append.1 hy with h4 | h4
          · exact h.pos y h4
          · rw [List.mem_singleton.1 h4]; omega
        · rw [List.pairwise_append]
          refine ⟨h.once, by simp, fun y hy z hz => by rw [List.mem_singleton.1 hz]; exact seenAt_none h2 y hy⟩

/-- the last one is the first one -/
theorem seenAt_once {xs : List TSeen} (h : xs.Pairwise fun x y => x.stripe ≠ y.stripe) {j : Nat} (hj : j < xs.length) : seenAt xs xs[j].stripe = some xs[j].version := by
  induction xs generalizing j with
  | nil => simp at hj
  | cons y ys ih =>
    rw [List.pairwise_cons] at h
    rw [seenAt_cons]
    cases j with
    | zero => simp
    | succ j =>
      have hj2 : j < ys.length := by simpa using hj
      have := h.1 ys[j] (List.getElem_mem hj2)
      simp only [List.getElem_cons_succ]
      rw [if_neg this]
      exact ih h.2 hj2

theorem seenAt_take {xs : List TSeen} (h : xs.Pairwise fun x y => x.stripe ≠ y.stripe) {j : Nat} (hj : j < xs.length) (k : Int) : seenAt (xs.take (j + 1)) k = if xs[j].stripe = k then some xs[j].version else seenAt (xs.take j) k := by
  have h1 : xs.take (j + 1) = xs.take j ++ [xs[j]] := by rw [List.take_add_one, List.getElem?_eq_getElem hj]; rfl
  rw [h1]
  unfold seenAt
  rw [List.find?_append]
  by_cases hk : xs[j].stripe = k
  · have hn : (xs.take j).find? (fun x => decide (x.stripe = k)) = none := by
      rw [List.find?_eq_none]
      intro x hx
      obtain ⟨i, hi, e⟩ := List.getElem_of_mem hx
      simp at hi
      rw [List.pairwise_iff_getElem] at h
      have := h i j (by omega) hj (by omega)
      simp at e
      simp [← e, ← hk, this]
    simp [hn, hk]
  · simp [hk]

theorem s_law7_ReadsPlays {n : Int} {l1 l2 l3 : Value} {qs : List TSeen} {ks : List TLock} {vs : List Int} [a1 : Arg w0 l1 tSeenE qs] [a2 : Arg w0 l2 tLockE ks] [a3 : Arg w0 l3 wordE vs] (hl2 : ks.length * 24 ≤ 140737488351232) (hK : G w0 L (K (.bool true))) :
    G w0 L (CP Try.prog Fn.law7_ReadsPlays [i64 n, l1, l2, l3] K) := by
  refine C_law7_ReadsPlays ?_
  unfold S_law7_ReadsPlays
  refine s_law7_ReadsRuns ?_
  try simp only [↓RG, RP, true_and, and_true, beq_true, beq_false, Bool.true_beq, Bool.false_beq, BEq.rfl, Int.reduceEq, Int.reduceLT, Int.reduceLE, Nat.reduceEqDiff, decide_true, decide_false, Bool.not_true, Bool.not_false, Bool.and_true, Bool.true_and, Bool.and_false, Bool.false_and, Bool.or_true, Bool.true_or, Bool.or_false, Bool.false_or, Bool.not_not]
  refine s_reads_New fun b => ?_
  refine s_ref7_NewReads fun c => ?_
  try simp only [↓RG, RP, true_and, and_true, beq_true, beq_false, Bool.true_beq, Bool.false_beq, BEq.rfl, Int.reduceEq, Int.reduceLT, Int.reduceLE, Nat.reduceEqDiff, decide_true, decide_false, Bool.not_true, Bool.not_false, Bool.and_true, Bool.true_and, Bool.and_false, Bool.false_and, Bool.or_true, Bool.true_or, Bool.or_false, Bool.false_or, Bool.not_not]
  refine G.nilsl tLockE ?_
  refine G.append (xs := []) (ys := ks) (by simp; omega) (by simp [maxLen]; omega) fun u hu => ?_
  simp only [List.nil_append]
  try simp only [↓RG, RP, true_and, and_true, beq_true, beq_false, Bool.true_beq, Bool.false_beq, BEq.rfl, Int.reduceEq, Int.reduceLT, Int.reduceLE, Nat.reduceEqDiff, decide_true, decide_false, Bool.not_true, Bool.not_false, Bool.and_true, Bool.true_and, Bool.and_false, Bool.false_and, Bool.or_true, Bool.true_or, Bool.or_false, Bool.false_or, Bool.not_not]
  refine G.cond (fun h => hK.sub) (fun h => ?_)
  have hkl : ks.length ≤ 40 := by simp at h; omega
  have hb := held_le (n := n) (show (1 : Int) ≤ 16 by omega)
  generalize held n 1 16 = m at hb
  refine G.loop2 (σ := Value × List TLock × Nat) (fun s => s.1) (fun s => i64 s.2.2) (fun s => sl tLockE s.1 s.2.1 :: ob ReadsR c (m, []) :: ob ReadsR b (m, []) :: L) (fun s => s.2.2 ≤ 16 ∧ s.2.2 ≤ s.2.1.length ∧ s.2.1.length ≤ 40 + s.2.2 ∧ Cells s.1 [s.1]) (fun s => 16 - s.2.2) (u, ks, 0) rfl rfl rfl ⟨by simp, by simp, by simpa using hkl, hu⟩ ?_
  rintro ⟨y, ls, k⟩ ⟨hk1, hk2, hk3, hy⟩ J hJ
  simp only at hk1 hk2 hk3 hy hJ ⊢
  try simp only [fuse_and, fuse_or, fuse_step, fuse_pair, fuse_in, andP_true]
  try simp only [↓RG, RP, true_and, and_true, beq_true, beq_false, Bool.true_beq, Bool.false_beq, BEq.rfl, Int.reduceEq, Int.reduceLT, Int.reduceLE, Nat.reduceEqDiff, decide_true, decide_false, Bool.not_true, Bool.not_false, Bool.and_true, Bool.true_and, Bool.and_false, Bool.false_and, Bool.or_true, Bool.true_or, Bool.or_false, Bool.false_or, Bool.not_not]
  refine G.cond (fun h => ?_) (fun h => ?_)
  · have hk : k < vs.length ∧ k < 16 := by simp at h; omega
    have e := elem_of hk.1
    try simp only [↓RG, RP, true_and, and_true, beq_true, beq_false, Bool.true_beq, Bool.false_beq, BEq.rfl, Int.reduceEq, Int.reduceLT, Int.reduceLE, Nat.reduceEqDiff, decide_true, decide_false, Bool.not_true, Bool.not_false, Bool.and_true, Bool.true_and, Bool.and_false, Bool.false_and, Bool.or_true, Bool.true_or, Bool.or_false, Bool.false_or, Bool.not_not]
    refine G.join1 (σ := Value × List TLock) (fun s => s.1) (fun s => sl tLockE s.1 s.2 :: ob ReadsR c (m, []) :: ob ReadsR b (m, []) :: L) (fun s => k < s.2.length ∧ s.2.length ≤ 41 + k ∧ Cells s.1 [s.1]) ?_ (fun J2 hJ2 => ?_)
    · rintro ⟨z, zs⟩ ⟨h1, h2, hz⟩
      simp only at h1 h2 hz ⊢
      have e2 := elem_of h1
      try simp only [↓RG, RP, true_and, and_true, beq_true, beq_false, Bool.true_beq, Bool.false_beq, BEq.rfl, Int.reduceEq, Int.reduceLT, Int.reduceLE, Nat.reduceEqDiff, decide_true, decide_false, Bool.not_true, Bool.not_false, Bool.and_true, Bool.true_and, Bool.and_false, Bool.false_and, Bool.or_true, Bool.true_or, Bool.or_false, Bool.false_or, Bool.not_not]
      rw [wsucc (by omega)]
      exact hJ (z, _, k + 1) ⟨hk.2, by simp; omega, by simp; omega, hz⟩ (by simp; omega)
    · refine G.cond (fun h => ?_) (fun h => ?_)
      · try simp only [↓RG, RP, true_and, and_true, beq_true, beq_false, Bool.true_beq, Bool.false_beq, BEq.rfl, Int.reduceEq, Int.reduceLT, Int.reduceLE, Nat.reduceEqDiff, decide_true, decide_false, Bool.not_true, Bool.not_false, Bool.and_true, Bool.true_and, Bool.and_false, Bool.false_and, Bool.or_true, Bool.true_or, Bool.or_false, Bool.false_or, Bool.not_not]
        refine G.append1 rfl rfl (by decide) (by omega) (by simp only [maxLen]; omega) fun z hz => ?_
        exact hJ2 (z, _) ⟨by simp; omega, by simp; omega, hz⟩
      · exact hJ2 (y, ls) ⟨by simp at h; omega, by simp; omega, hy⟩
  clear hJ J
  have hll : ls.length ≤ 56 := by omega
  clear h hk1 hk2 hk3
  refine G.loop1 (σ := Nat × List TSeen) (fun s => i64 s.1) (fun s => sl tLockE y ls :: ob ReadsR c (m, s.2) :: ob ReadsR b (m, s.2) :: L) (fun s => s.1 ≤ 60 ∧ SeenOk m s.2) (fun s => 60 - s.1) (0, []) rfl rfl ⟨by simp, by simp; omega, by simp, by simp⟩ ?_
  rintro ⟨k, xs⟩ ⟨hk1, ok⟩ J hJ
  simp only at hk1 ok hJ ⊢
  try simp only [↓RG, RP, true_and, and_true, beq_true, beq_false, Bool.true_beq, Bool.false_beq, BEq.rfl, Int.reduceEq, Int.reduceLT, Int.reduceLE, Nat.reduceEqDiff, decide_true, decide_false, Bool.not_true, Bool.not_false, Bool.and_true, Bool.true_and, Bool.and_false, Bool.false_and, Bool.or_true, Bool.true_or, Bool.or_false, Bool.false_or, Bool.not_not]
  refine G.cond (fun h => ?_) (fun h => hK.sub)
  have hk : k < qs.length ∧ k < 60 := by simp at h; omega
  have e := elem_of hk.1
  try simp only [↓RG, RP, true_and, and_true, beq_true, beq_false, Bool.true_beq, Bool.false_beq, BEq.rfl, Int.reduceEq, Int.reduceLT, Int.reduceLE, Nat.reduceEqDiff, decide_true, decide_false, Bool.not_true, Bool.not_false, Bool.and_true, Bool.true_and, Bool.and_false, Bool.false_and, Bool.or_true, Bool.true_or, Bool.or_false, Bool.false_or, Bool.not_not]
  refine s_law7_near fun q => ?_
  refine G.new fun p => ?_
  try simp only [↓RG, RP, true_and, and_true, beq_true, beq_false, Bool.true_beq, Bool.false_beq, BEq.rfl, Int.reduceEq, Int.reduceLT, Int.reduceLE, Nat.reduceEqDiff, decide_true, decide_false, Bool.not_true, Bool.not_false, Bool.and_true, Bool.true_and, Bool.and_false, Bool.false_and, Bool.or_true, Bool.true_or, Bool.or_false, Bool.false_or, Bool.not_not]
  refine G.drew ?_
  try simp only [↓RG, RP, true_and, and_true, beq_true, beq_false, Bool.true_beq, Bool.false_beq, BEq.rfl, Int.reduceEq, Int.reduceLT, Int.reduceLE, Nat.reduceEqDiff, decide_true, decide_false, Bool.not_true, Bool.not_false, Bool.and_true, Bool.true_and, Bool.and_false, Bool.false_and, Bool.or_true, Bool.true_or, Bool.or_false, Bool.false_or, Bool.not_not]
  have ok2 := ok.add (x := q)
  have hxl := ok.len
  have hxl2 := ok2.len
  refine s_reads_Reads_Add (xs := xs) (by omega) ?_
  try simp only [↓RG, RP, true_and, and_true, beq_true, beq_false, Bool.true_beq, Bool.false_beq, BEq.rfl, Int.reduceEq, Int.reduceLT, Int.reduceLE, Nat.reduceEqDiff, decide_true, decide_false, Bool.not_true, Bool.not_false, Bool.and_true, Bool.true_and, Bool.and_false, Bool.false_and, Bool.or_true, Bool.true_or, Bool.or_false, Bool.false_or, Bool.not_not]
  refine s_ref7_Reads_Add (xs := xs) (by omega) ok.len ?_
  generalize addSeen m xs q = zs at ok2 hxl2
  refine G.take1 ReadsR c ?_
  rw [ReadsR_open]
  intro z hz
  try simp only [↓RG, RP, true_and, and_true, beq_true, beq_false, Bool.true_beq, Bool.false_beq, BEq.rfl, Int.reduceEq, Int.reduceLT, Int.reduceLE, Nat.reduceEqDiff, decide_true, decide_false, Bool.not_true, Bool.not_false, Bool.and_true, Bool.true_and, Bool.and_false, Bool.false_and, Bool.or_true, Bool.true_or, Bool.or_false, Bool.false_or, Bool.not_not]
  refine s_reads_Reads_All (xs := zs) (by omega) fun u2 hu2 => ?_
  try simp only [↓RG, RP, true_and, and_true, beq_true, beq_false, Bool.true_beq, Bool.false_beq, BEq.rfl, Int.reduceEq, Int.reduceLT, Int.reduceLE, Nat.reduceEqDiff, decide_true, decide_false, Bool.not_true, Bool.not_false, Bool.and_true, Bool.true_and, Bool.and_false, Bool.false_and, Bool.or_true, Bool.true_or, Bool.or_false, Bool.false_or, Bool.not_not]
  refine s_book_Same_api_Seen (by omega) ?_
  try simp only [↓RG, RP, true_and, and_true, beq_true, beq_false, Bool.true_beq, Bool.false_beq, BEq.rfl, Int.reduceEq, Int.reduceLT, Int.reduceLE, Nat.reduceEqDiff, decide_true, decide_false, Bool.not_true, Bool.not_false, Bool.and_true, Bool.true_and, Bool.and_false, Bool.false_and, Bool.or_true, Bool.true_or, Bool.or_false, Bool.false_or, Bool.not_not]
  refine s_reads_Reads_Len (xs := zs) ?_
  try simp only [↓RG, RP, true_and, and_true, beq_true, beq_false, Bool.true_beq, Bool.false_beq, BEq.rfl, Int.reduceEq, Int.reduceLT, Int.reduceLE, Nat.reduceEqDiff, decide_true, decide_false, Bool.not_true, Bool.not_false, Bool.and_true, Bool.true_and, Bool.and_false, Bool.false_and, Bool.or_true, Bool.true_or, Bool.or_false, Bool.false_or, Bool.not_not]
  refine s_reads_Reads_Stands (xs := zs) (ls := ls) (by omega) (fun x hx => (ok2.pos x hx).1) ?_
  try simp only [↓RG, RP, true_and, and_true, beq_true, beq_false, Bool.true_beq, Bool.false_beq, BEq.rfl, Int.reduceEq, Int.reduceLT, Int.reduceLE, Nat.reduceEqDiff, decide_true, decide_false, Bool.not_true, Bool.not_false, Bool.and_true, Bool.true_and, Bool.and_false, Bool.false_and, Bool.or_true, Bool.true_or, Bool.or_false, Bool.false_or, Bool.not_not]
  refine s_ref7_Stands (by omega) (fun x hx => (ok2.pos x hx).1) ?_
  try simp only [↓RG, RP, true_and, and_true, beq_true, beq_false, Bool.true_beq, Bool.false_beq, BEq.rfl, Int.reduceEq, Int.reduceLT, Int.reduceLE, Nat.reduceEqDiff, decide_true, decide_false, Bool.not_true, Bool.not_false, Bool.and_true, Bool.true_and, Bool.and_false, Bool.false_and, Bool.or_true, Bool.true_or, Bool.or_false, Bool.false_or, Bool.not_not]
  refine s_reads_Reads_Get (xs := zs) (by omega) ?_
  try simp only [↓RG, RP, true_and, and_true, beq_true, beq_false, Bool.true_beq, Bool.false_beq, BEq.rfl, Int.reduceEq, Int.reduceLT, Int.reduceLE, Nat.reduceEqDiff, decide_true, decide_false, Bool.not_true, Bool.not_false, Bool.and_true, Bool.true_and, Bool.and_false, Bool.false_and, Bool.or_true, Bool.true_or, Bool.or_false, Bool.false_or, Bool.not_not]
  refine G.loopc3 (fun j : Nat => u64 ((seenAt (zs.take j) q.stripe).getD 0)) (fun j => .bool (seenAt (zs.take j) q.stripe).isSome) (fun j => i64 j) (fun j => j ≤ zs.length) (fun j => zs.length - j) 0 rfl rfl rfl (by simp) ?_
  intro j hj J3 hJ3
  try simp only [↓RG, RP, true_and, and_true, beq_true, beq_false, Bool.true_beq, Bool.false_beq, BEq.rfl, Int.reduceEq, Int.reduceLT, Int.reduceLE, Nat.reduceEqDiff, decide_true, decide_false, Bool.not_true, Bool.not_false, Bool.and_true, Bool.true_and, Bool.and_false, Bool.false_and, Bool.or_true, Bool.true_or, Bool.or_false, Bool.false_or, Bool.not_not]
  refine G.cond (fun h => ?_) (fun h => ?_)
  · have hj2 : j < zs.length := by simpa using h
    have e2 := elem_of hj2
    have ht := seenAt_take ok2.once hj2 q.stripe
    have hn := hJ3 (j + 1) hj2 (by omega)
    rw [ht] at hn
    refine G.drew ?_
    try simp only [↓RG, RP, true_and, and_true, beq_true, beq_false, Bool.true_beq, Bool.false_beq, BEq.rfl, Int.reduceEq, Int.reduceLT, Int.reduceLE, Nat.reduceEqDiff, decide_true, decide_false, Bool.not_true, Bool.not_false, Bool.and_true, Bool.true_and, Bool.and_false, Bool.false_and, Bool.or_true, Bool.true_or, Bool.or_false, Bool.false_or, Bool.not_not]
    refine G.joinc2 (σ := Unit) (fun _ => u64 ((seenAt (zs.take (j + 1)) q.stripe).getD 0)) (fun _ => .bool (seenAt (zs.take (j + 1)) q.stripe).isSome) (fun _ => True) (fun _ _ => ?_) (fun J2 hJ2 => ?_)
    · try simp only [↓RG, RP, true_and, and_true, beq_true, beq_false, Bool.true_beq, Bool.false_beq, BEq.rfl, Int.reduceEq, Int.reduceLT, Int.reduceLE, Nat.reduceEqDiff, decide_true, decide_false, Bool.not_true, Bool.not_false, Bool.and_true, Bool.true_and, Bool.and_false, Bool.false_and, Bool.or_true, Bool.true_or, Bool.or_false, Bool.false_or, Bool.not_not]
      rw [wsucc (by omega), ht]
      exact hn
    · have hJ2 := hJ2 () trivial
      rw [ht] at hJ2
      refine G.cond (fun h => ?_) (fun h => ?_)
      · rw [if_pos (by simpa using h)] at hJ2
        try simp only [↓RG, RP, true_and, and_true, beq_true, beq_false, Bool.true_beq, Bool.false_beq, BEq.rfl, Int.reduceEq, Int.reduceLT, Int.reduceLE, Nat.reduceEqDiff, decide_true, decide_false, Bool.not_true, Bool.not_false, Bool.and_true, Bool.true_and, Bool.and_false, Bool.false_and, Bool.or_true, Bool.true_or, Bool.or_false, Bool.false_or, Bool.not_not]
        exact hJ2
      · rw [if_neg (by simpa using h)] at hJ2
        exact hJ2
  · have ht : zs.take j = zs := List.take_of_length_le (by simpa using h)
    rw [ht]
    try simp only [↓RG, RP, true_and, and_true, beq_true, beq_false, Bool.true_beq, Bool.false_beq, BEq.rfl, Int.reduceEq, Int.reduceLT, Int.reduceLE, Nat.reduceEqDiff, decide_true, decide_false, Bool.not_true, Bool.not_false, Bool.and_true, Bool.true_and, Bool.and_false, Bool.false_and, Bool.or_true, Bool.true_or, Bool.or_false, Bool.false_or, Bool.not_not]
    rw [wsucc (by omega)]
    have := hJ (k + 1, zs) ⟨hk.2, ok2⟩ (by simp; omega)
    rw [G_swap, ReadsR_open] at this
    exact (this z hz).sub

/-! ### the third statement -/
def fullSeen (vs : List Int) (j : Nat) : List TSeen := (List.range j).map fun i : Nat => ⟨(i : Int), IntKind.wrap .u64 (vs.getD i 0)⟩

theorem fullSeen_succ (vs : List Int) (j : Nat) : fullSeen vs (j + 1) = fullSeen vs j ++ [⟨(j : Int), IntKind.wrap .u64 (vs.getD j 0)⟩] := by
  unfold fullSeen; rw [List.range_succ, List.map_append]; rfl

theorem seenAt_snoc (xs : List TSeen) (y : TSeen) (k : Int) : seenAt (xs ++ [y]) k = match seenAt xs k with | some v => some v | none => if y.stripe = k then some y.version else none := by
  unfold seenAt
  rw [List.find?_append]
  cases (xs.find? fun x => decide (x.stripe = k)) with
  | some v => rfl
  | none => by_cases h : y.stripe = k <;> simp [h]

theorem seenAt_full (vs : List Int) (j k : Nat) : seenAt (fullSeen vs j) k = if k < j then some (IntKind.wrap .u64 (vs.getD k 0)) else none := by
  induction j with
  | zero => rfl
  | succ j ih =>
    rw [fullSeen_succ, seenAt_snoc, ih]
    by_cases h1 : k < j
    · simp [h1, show k < j + 1 by omega]
    · by_cases h2 : k = j
      · subst h2; simp
      · have : ¬ ((j : Int) = k) := by omega
        simp [h1, this, show ¬ k < j + 1 by omega]

theorem fullSeen_length (vs : List Int) (j : Nat) : (fullSeen vs j).length = j := by simp [fullSeen]

theorem wrap_byte {a : Int} (h : 0 ≤ a ∧ a ≤ 255) : IntKind.wrap .u64 a = a := wu64 (by omega) (by omega)

theorem s_law7_ReadsFull {n : Int} {l1 : Value} {vs : List Int} [a1 : Arg w0 l1 byteE vs] (hr1 : ∀ x ∈ vs, good [.i .u8] (byteE.enc x)) (hK : G w0 L (K (.bool true))) : G w0 L (CP Try.prog Fn.law7_ReadsFull [i64 n, l1] K) := by
  have hvs := good_u8 hr1
  refine C_law7_ReadsFull ?_
  unfold S_law7_ReadsFull
  refine s_law7_ReadsRuns ?_
  try simp only [fuse_and, fuse_or, fuse_step, fuse_pair, fuse_in, andP_true]
  try simp only [↓RG, RP, true_and, and_true, beq_true, beq_false, Bool.true_beq, Bool.false_beq, BEq.rfl, Int.reduceEq, Int.reduceLT, Int.reduceLE, Nat.reduceEqDiff, decide_true, decide_false, Bool.not_true, Bool.not_false, Bool.and_true, Bool.true_and, Bool.and_false, Bool.false_and, Bool.or_true, Bool.true_or, Bool.or_false, Bool.false_or, Bool.not_not]
  refine s_reads_New fun b => ?_
  try simp only [↓RG, RP, true_and, and_true, beq_true, beq_false, Bool.true_beq, Bool.false_beq, BEq.rfl, Int.reduceEq, Int.reduceLT, Int.reduceLE, Nat.reduceEqDiff, decide_true, decide_false, Bool.not_true, Bool.not_false, Bool.and_true, Bool.true_and, Bool.and_false, Bool.false_and, Bool.or_true, Bool.true_or, Bool.or_false, Bool.false_or, Bool.not_not]
  refine s_ref1_Held ?_
  have hb := held_le (n := n) (show (1 : Int) ≤ 16 by omega)
  obtain ⟨N, hN⟩ := Int.eq_ofNat_of_zero_le (show 0 ≤ held n 1 16 by omega)
  rw [hN] at hb ⊢
  refine G.loop1 (fun k : Nat => i64 k) (fun k => ob ReadsR b ((N : Int), fullSeen vs (min k N)) :: L) (fun k => k ≤ 16 ∧ k ≤ vs.length) (fun k => 16 - k) 0 rfl (by simp [fullSeen]) (by simp) ?_
  rintro k ⟨hk1, hk2⟩ J hJ
  try simp only [↓RG, RP, true_and, and_true, beq_true, beq_false, Bool.true_beq, Bool.false_beq, BEq.rfl, Int.reduceEq, Int.reduceLT, Int.reduceLE, Nat.reduceEqDiff, decide_true, decide_false, Bool.not_true, Bool.not_false, Bool.and_true, Bool.true_and, Bool.and_false, Bool.false_and, Bool.or_true, Bool.true_or, Bool.or_false, Bool.false_or, Bool.not_not]
  refine G.cond (fun h => ?_) (fun h => ?_)
  · have hk : k < vs.length ∧ k < 16 := by simp at h; omega
    have e := elem_of hk.1
    have hv := hvs vs[k] (List.getElem_mem hk.1)
    have hg : vs.getD k 0 = vs[k] := by simp [hk.1]
    try simp only [↓RG, RP, true_and, and_true, beq_true, beq_false, Bool.true_beq, Bool.false_beq, BEq.rfl, Int.reduceEq, Int.reduceLT, Int.reduceLE, Nat.reduceEqDiff, decide_true, decide_false, Bool.not_true, Bool.not_false, Bool.and_true, Bool.true_and, Bool.and_false, Bool.false_and, Bool.or_true, Bool.true_or, Bool.or_false, Bool.false_or, Bool.not_not]
    refine s_reads_Reads_Add (x := ⟨k, IntKind.wrap .u64 vs[k]⟩) (by rw [fullSeen_length]; omega) ?_
    have e1 : seenAt (fullSeen vs (min k N)) k = none := by rw [seenAt_full, if_neg (by omega)]
    have c1 : ¬ ((k : Int) < 0 ∨ (16 : Int) ≤ k ∨ 4611686018427387904 ≤ IntKind.wrap .u64 vs[k]) := by rw [wrap_byte hv]; omega
    have next := hJ (k + 1) ⟨hk.2, hk.1⟩ (by omega)
    by_cases hkN : k < N
    · have e2 : addErr N (fullSeen vs (min k N)) ⟨k, IntKind.wrap .u64 vs[k]⟩ = 0 := by
        unfold addErr; rw [if_neg c1]; simp only [e1, fullSeen_length]; rw [if_neg (by omega)]
      have e3 : addSeen N (fullSeen vs (min k N)) ⟨k, IntKind.wrap .u64 vs[k]⟩ = fullSeen vs (min (k + 1) N) := by
        unfold addSeen; rw [if_neg c1]; simp only [e1, fullSeen_length]; rw [if_neg (by omega), show min (k + 1) N = k + 1 by omega, show min k N = k by omega, fullSeen_succ, hg]
      have h5 : decide ((k : Int) < N) = true := by simp; omega
      rw [e2, e3]
      try simp only [↓RG, RP, true_and, and_true, beq_true, beq_false, Bool.true_beq, Bool.false_beq, BEq.rfl, Int.reduceEq, Int.reduceLT, Int.reduceLE, Nat.reduceEqDiff, decide_true, decide_false, Bool.not_true, Bool.not_false, Bool.and_true, Bool.true_and, Bool.and_false, Bool.false_and, Bool.or_true, Bool.true_or, Bool.or_false, Bool.false_or, Bool.not_not, h5]
      rw [wsucc (by omega)]
      exact next
    · have e2 : addErr N (fullSeen vs (min k N)) ⟨k, IntKind.wrap .u64 vs[k]⟩ = 5 := by
        unfold addErr; rw [if_neg c1]; simp only [e1, fullSeen_length]; rw [if_pos (by omega)]
      have e3 : addSeen N (fullSeen vs (min k N)) ⟨k, IntKind.wrap .u64 vs[k]⟩ = fullSeen vs (min (k + 1) N) := by
        unfold addSeen; rw [if_neg c1]; simp only [e1, fullSeen_length]; rw [if_pos (by omega), show min (k + 1) N = min k N by omega]
      have h5 : decide ((k : Int) < N) = false := by simp; omega
      rw [e2, e3]
      try simp only [↓RG, RP, true_and, and_true, beq_true, beq_false, Bool.true_beq, Bool.false_beq, BEq.rfl, Int.reduceEq, Int.reduceLT, Int.reduceLE, Nat.reduceEqDiff, decide_true, decide_false, Bool.not_true, Bool.not_false, Bool.and_true, Bool.true_and, Bool.and_false, Bool.false_and, Bool.or_true, Bool.true_or, Bool.or_false, Bool.false_or, Bool.not_not, h5]
      rw [wsucc (by omega)]
      exact next
  have hk : k = min 16 vs.length := by simp at h; omega
  clear hJ J h
  refine G.loopc1 (fun k : Nat => i64 k) (fun j => j ≤ 16 ∧ j ≤ vs.length) (fun k => 16 - k) 0 rfl (by simp) ?_
  rintro j ⟨hj1, hj2⟩ J hJ
  try simp only [↓RG, RP, true_and, and_true, beq_true, beq_false, Bool.true_beq, Bool.false_beq, BEq.rfl, Int.reduceEq, Int.reduceLT, Int.reduceLE, Nat.reduceEqDiff, decide_true, decide_false, Bool.not_true, Bool.not_false, Bool.and_true, Bool.true_and, Bool.and_false, Bool.false_and, Bool.or_true, Bool.true_or, Bool.or_false, Bool.false_or, Bool.not_not]
  refine G.cond (fun h => ?_) (fun h => ?_)
  · have hj : j < vs.length ∧ j < 16 := by simp at h; omega
    have e := elem_of hj.1
    have hg : vs.getD j 0 = vs[j] := by simp [hj.1]
    refine s_reads_Reads_Get (by rw [fullSeen_length]; omega) ?_
    rw [seenAt_full, hg]
    by_cases hjN : j < N
    · have h5 : decide ((j : Int) < N) = true := by simp; omega
      rw [if_pos (by omega)]
      try simp only [↓RG, RP, true_and, and_true, beq_true, beq_false, Bool.true_beq, Bool.false_beq, BEq.rfl, Int.reduceEq, Int.reduceLT, Int.reduceLE, Nat.reduceEqDiff, decide_true, decide_false, Bool.not_true, Bool.not_false, Bool.and_true, Bool.true_and, Bool.and_false, Bool.false_and, Bool.or_true, Bool.true_or, Bool.or_false, Bool.false_or, Bool.not_not, h5, Option.getD_some, Option.isSome_some]
      rw [wsucc (by omega)]
      exact hJ (j + 1) ⟨hj.2, hj.1⟩ (by omega)
    · have h5 : decide ((j : Int) < N) = false := by simp; omega
      rw [if_neg (by omega)]
      try simp only [↓RG, RP, true_and, and_true, beq_true, beq_false, Bool.true_beq, Bool.false_beq, BEq.rfl, Int.reduceEq, Int.reduceLT, Int.reduceLE, Nat.reduceEqDiff, decide_true, decide_false, Bool.not_true, Bool.not_false, Bool.and_true, Bool.true_and, Bool.and_false, Bool.false_and, Bool.or_true, Bool.true_or, Bool.or_false, Bool.false_or, Bool.not_not, h5, Option.getD_none, Option.isSome_none]
      rw [wsucc (by omega)]
      exact hJ (j + 1) ⟨hj.2, hj.1⟩ (by omega)
  refine s_reads_Reads_Len ?_
  try simp only [↓RG, RP, true_and, and_true, beq_true, beq_false, Bool.true_beq, Bool.false_beq, BEq.rfl, Int.reduceEq, Int.reduceLT, Int.reduceLE, Nat.reduceEqDiff, decide_true, decide_false, Bool.not_true, Bool.not_false, Bool.and_true, Bool.true_and, Bool.and_false, Bool.false_and, Bool.or_true, Bool.true_or, Bool.or_false, Bool.false_or, Bool.not_not]
  rw [fullSeen_length, decide_eq_true (by split <;> (try split) <;> omega)]
  exact hK.sub

/-! ### the fourth statement -/
def bitOf (s : Int) (k : Nat) : Int := IntKind.wrap .u16 ((BitVec.ofInt IntKind.u16.bits (s.fdiv (2 ^ min (k : Int).toNat IntKind.u16.bits)) &&& BitVec.ofInt IntKind.u16.bits 1).toNat)

theorem bitOf_two (s : Int) (k : Nat) : bitOf s k = 0 ∨ bitOf s k = 1 := by
  unfold bitOf
  have h2 : ∀ x : BitVec IntKind.u16.bits, (x &&& BitVec.ofInt IntKind.u16.bits 1).toNat = x.toNat % 2 := fun x => by
    rw [BitVec.toNat_and]
    exact Nat.and_one_is_mod _
  rw [h2]
  rcases Nat.mod_two_eq_zero_or_one ((BitVec.ofInt IntKind.u16.bits (s.fdiv (2 ^ min (k : Int).toNat IntKind.u16.bits))).toNat) with h | h <;> rw [h]
  · exact .inl (by decide)
  · exact .inr (by decide)

def bitSeen (vs : List Int) (s : Int) (j : Nat) : List TSeen := ((List.range j).filter fun i => decide (bitOf s i = 1)).map fun i : Nat => ⟨(i : Int), IntKind.wrap .u64 (vs.getD i 0)⟩
def plainLocks (vs : List Int) : List TLock := vs.map fun v => ⟨IntKind.wrap .u64 v, false, 0⟩

theorem bitSeen_succ (vs : List Int) (s : Int) (j : Nat) : bitSeen vs s (j + 1) = if bitOf s j = 1 then bitSeen vs s j ++ [⟨(j : Int), IntKind.wrap .u64 (vs.getD j 0)⟩] else bitSeen vs s j := by
  unfold bitSeen
  rw [List.range_succ, List.filter_append]
  by_cases h : bitOf s j = 1 <;> simp [h]

theorem bitSeen_mem {vs : List Int} {s : Int} {j : Nat} {x : TSeen} (h : x ∈ bitSeen vs s j) : ∃ i : Nat, i < j ∧ bitOf s i = 1 ∧ x = ⟨(i : Int), IntKind.wrap .u64 (vs.getD i 0)⟩ := by
  obtain ⟨i, hi, e⟩ := List.mem_map.1 h
  have := List.mem_filter.1 hi
  exact ⟨i, List.mem_range.1 this.1, by simpa using this.2, e.symm⟩

theorem bitSeen_length (vs : List Int) (s : Int) (j : Nat) : (bitSeen vs s j).length ≤ j := by
  unfold bitSeen
  have := List.length_filter_le (fun i => decide (bitOf s i = 1)) (List.range j)
  simp at this ⊢
  omega

theorem seenAt_bit (vs : List Int) (s : Int) (j : Nat) : seenAt (bitSeen vs s j) j = none := by
  unfold seenAt
  simp only [Option.map_eq_none_iff, List.find?_eq_none]
  intro x hx
  obtain ⟨i, h1, _, rfl⟩ := bitSeen_mem hx
  simp; omega

theorem plain_at {vs : List Int} {i : Nat} (h : i < vs.length) : (plainLocks vs)[i]? = some ⟨IntKind.wrap .u64 (vs.getD i 0), false, 0⟩ := by
  unfold plainLocks
  rw [List.getElem?_map, List.getElem?_eq_getElem h]
  simp [h]

theorem stands_plain (vs : List Int) (s : Int) : stands (bitSeen vs s vs.length) (plainLocks vs) = true := by
  unfold stands
  rw [List.all_eq_true]
  intro x hx
  obtain ⟨i, h1, _, rfl⟩ := bitSeen_mem hx
  unfold standOne
  simp only [Int.toNat_natCast, plain_at h1]
  simp

theorem stands_turned (vs : List Int) (s : Int) (k : Nat) (hk : k < vs.length) (l : TLock) (hl : l.held = true ∨ l.version ≠ IntKind.wrap .u64 (vs.getD k 0)) :
    stands (bitSeen vs s vs.length) ((plainLocks vs).set k l) = decide (bitOf s k = 0) := by
  have hlen : k < (plainLocks vs).length := by simpa [plainLocks] using hk
  have key : ∀ x ∈ bitSeen vs s vs.length, standOne ((plainLocks vs).set k l) x = !decide (x.stripe = (k : Int)) := by
    intro x hx
    obtain ⟨i, h1, _, rfl⟩ := bitSeen_mem hx
    unfold standOne
    simp only [Int.toNat_natCast]
    by_cases hik : i = k
    · subst hik
      rw [List.getElem?_set_self hlen]
      rcases hl with hl | hl
      · simp [hl]
      · simp only [decide_eq_false hl, Bool.and_false, decide_true, Bool.not_true]
    · rw [List.getElem?_set_ne (fun e => hik e.symm), plain_at h1]
      have : ¬ ((i : Int) = k) := by omega
      simp [this]
  have h2 : stands (bitSeen vs s vs.length) ((plainLocks vs).set k l) = (bitSeen vs s vs.length).all fun x => !decide (x.stripe = (k : Int)) := by
    unfold stands
    rw [Bool.eq_iff_iff, List.all_eq_true, List.all_eq_true]
    exact ⟨fun h x hx => by rw [← key x hx]; exact h x hx, fun h x hx => by rw [key x hx]; exact h x hx⟩
  rw [h2, Bool.eq_iff_iff, List.all_eq_true, decide_eq_true_eq]
  constructor
  · intro h
    rcases bitOf_two s k with h3 | h3
    · exact h3
    · have := h ⟨(k : Int), IntKind.wrap .u64 (vs.getD k 0)⟩ (List.mem_map.2 ⟨k, List.mem_filter.2 ⟨List.mem_range.2 hk, by simpa using h3⟩, rfl⟩)
      simp at this
  · intro h x hx
    obtain ⟨i, h1, h3, rfl⟩ := bitSeen_mem hx
    have : i ≠ k := fun e => by subst e; omega
    simp; omega

theorem s_law7_ReadsStands {l1 : Value} {vs : List Int} {s a h0 : Int} [a1 : Arg w0 l1 byteE vs] (hr0 : ∀ x ∈ vs, good [.i .u8] (byteE.enc x)) (hn2 : inK .u8 a) (hK : G w0 L (K (.bool true))) :
    G w0 L (CP Try.prog Fn.law7_ReadsStands [l1, .int .u16 s, .int .u8 a, .int .u8 h0] K) := by
  have hvs := good_u8 hr0
  have ha := inK_u8 hn2
  refine C_law7_ReadsStands ?_
  unfold S_law7_ReadsStands
  refine s_law7_ReadsRuns ?_
  try simp only [fuse_and, fuse_or, fuse_step, fuse_pair, fuse_in, andP_true]
  try simp only [↓RG, RP, true_and, and_true, beq_true, beq_false, Bool.true_beq, Bool.false_beq, BEq.rfl, Int.reduceEq, Int.reduceLT, Int.reduceLE, Nat.reduceEqDiff, decide_true, decide_false, Bool.not_true, Bool.not_false, Bool.and_true, Bool.true_and, Bool.and_false, Bool.false_and, Bool.or_true, Bool.true_or, Bool.or_false, Bool.false_or, Bool.not_not]
  refine G.any (decide (16 < (vs.length : Int))) (fun _ K hK => by try simp only [↓RG, RP, true_and, and_true, beq_true, beq_false, Bool.true_beq, Bool.false_beq, BEq.rfl, Int.reduceEq, Int.reduceLT, Int.reduceLE, Nat.reduceEqDiff, decide_true, decide_false, Bool.not_true, Bool.not_false, Bool.and_true, Bool.true_and, Bool.and_false, Bool.false_and, Bool.or_true, Bool.true_or, Bool.or_false, Bool.false_or, Bool.not_not]; exact hK) ?_
  refine G.cond (fun h => hK.sub) (fun h => ?_)
  have hl : 1 ≤ vs.length ∧ vs.length ≤ 16 := by simp at h; omega
  refine s_reads_New fun b => ?_
  have e16 : held 16 1 16 = 16 := by decide
  rw [e16]
  try simp only [↓RG, RP, true_and, and_true, beq_true, beq_false, Bool.true_beq, Bool.false_beq, BEq.rfl, Int.reduceEq, Int.reduceLT, Int.reduceLE, Nat.reduceEqDiff, decide_true, decide_false, Bool.not_true, Bool.not_false, Bool.and_true, Bool.true_and, Bool.and_false, Bool.false_and, Bool.or_true, Bool.true_or, Bool.or_false, Bool.false_or, Bool.not_not]
  refine G.nilsl tLockE ?_
  refine G.loop2 (σ := Value × Nat) (fun q => q.1) (fun q => i64 q.2) (fun q => sl tLockE q.1 (plainLocks (vs.take q.2)) :: ob ReadsR b (16, bitSeen vs s q.2) :: L) (fun q => q.2 ≤ vs.length ∧ Cells q.1 [q.1]) (fun q => vs.length - q.2) (_, 0) rfl rfl rfl ⟨by simp, cells_slice⟩ ?_
  rintro ⟨v, k⟩ ⟨hk, hv⟩ J hJ
  simp only at hk hv hJ ⊢
  try simp only [↓RG, RP, true_and, and_true, beq_true, beq_false, Bool.true_beq, Bool.false_beq, BEq.rfl, Int.reduceEq, Int.reduceLT, Int.reduceLE, Nat.reduceEqDiff, decide_true, decide_false, Bool.not_true, Bool.not_false, Bool.and_true, Bool.true_and, Bool.and_false, Bool.false_and, Bool.or_true, Bool.true_or, Bool.or_false, Bool.false_or, Bool.not_not]
  refine G.cond (fun h => ?_) (fun h => ?_)
  · have hk2 : k < vs.length := by simpa using h
    have e := elem_of hk2
    have hb := hvs vs[k] (List.getElem_mem hk2)
    have hg : vs.getD k 0 = vs[k] := by simp [hk2]
    have hw : IntKind.wrap .u64 (k : Int) = k := wu64 (by omega) (by omega)
    try simp only [↓RG, RP, true_and, and_true, beq_true, beq_false, Bool.true_beq, Bool.false_beq, BEq.rfl, Int.reduceEq, Int.reduceLT, Int.reduceLE, Nat.reduceEqDiff, decide_true, decide_false, Bool.not_true, Bool.not_false, Bool.and_true, Bool.true_and, Bool.and_false, Bool.false_and, Bool.or_true, Bool.true_or, Bool.or_false, Bool.false_or, Bool.not_not]
    refine G.append1 rfl rfl (by decide) (by simp [plainLocks]; omega) (by simp [plainLocks, maxLen]; omega) fun u hu => ?_
    try simp only [↓RG, RP, true_and, and_true, beq_true, beq_false, Bool.true_beq, Bool.false_beq, BEq.rfl, Int.reduceEq, Int.reduceLT, Int.reduceLE, Nat.reduceEqDiff, decide_true, decide_false, Bool.not_true, Bool.not_false, Bool.and_true, Bool.true_and, Bool.and_false, Bool.false_and, Bool.or_true, Bool.true_or, Bool.or_false, Bool.false_or, Bool.not_not, hw]
    have next := hJ (u, k + 1) ⟨hk2, hu⟩ (by simp; omega)
    simp only at next
    have hp : plainLocks (vs.take (k + 1)) = plainLocks (vs.take k) ++ [⟨IntKind.wrap .u64 vs[k], false, 0⟩] := by
      unfold plainLocks; rw [List.take_add_one, List.getElem?_eq_getElem hk2, List.map_append]; rfl
    rw [hp, bitSeen_succ, hg] at next
    have hbit : ∀ t : Int, decide (IntKind.wrap .u16 ((BitVec.ofInt IntKind.u16.bits (s.fdiv (2 ^ min (k : Int).toNat IntKind.u16.bits)) &&& BitVec.ofInt IntKind.u16.bits 1).toNat) = t) = decide (bitOf s k = t) := fun t => rfl
    simp only [hbit]
    by_cases h1 : bitOf s k = 1
    · rw [if_pos h1] at next
      try simp only [↓RG, RP, true_and, and_true, beq_true, beq_false, Bool.true_beq, Bool.false_beq, BEq.rfl, Int.reduceEq, Int.reduceLT, Int.reduceLE, Nat.reduceEqDiff, decide_true, decide_false, Bool.not_true, Bool.not_false, Bool.and_true, Bool.true_and, Bool.and_false, Bool.false_and, Bool.or_true, Bool.true_or, Bool.or_false, Bool.false_or, Bool.not_not, h1]
      have hbl := bitSeen_length vs s k
      refine s_reads_Reads_Add (x := ⟨k, IntKind.wrap .u64 vs[k]⟩) (by omega) ?_
      have e1 := seenAt_bit vs s k
      have c1 : ¬ ((k : Int) < 0 ∨ (16 : Int) ≤ k ∨ 4611686018427387904 ≤ IntKind.wrap .u64 vs[k]) := by rw [wrap_byte hb]; omega
      have e2 : addErr 16 (bitSeen vs s k) ⟨k, IntKind.wrap .u64 vs[k]⟩ = 0 := by
        unfold addErr; rw [if_neg c1]; simp only [e1]; rw [if_neg (by omega)]
      have e3 : addSeen 16 (bitSeen vs s k) ⟨k, IntKind.wrap .u64 vs[k]⟩ = bitSeen vs s k ++ [⟨k, IntKind.wrap .u64 vs[k]⟩] := by
        unfold addSeen; rw [if_neg c1]; simp only [e1]; rw [if_neg (by omega)]
      rw [e2, e3]
      try simp only [↓RG, RP, true_and, and_true, beq_true, beq_false, Bool.true_beq, Bool.false_beq, BEq.rfl, Int.reduceEq, Int.reduceLT, Int.reduceLE, Nat.reduceEqDiff, decide_true, decide_false, Bool.not_true, Bool.not_false, Bool.and_true, Bool.true_and, Bool.and_false, Bool.false_and, Bool.or_true, Bool.true_or, Bool.or_false, Bool.false_or, Bool.not_not]
      rw [wsucc (by omega)]
      exact next
    · rw [if_neg h1] at next
      try simp only [↓RG, RP, true_and, and_true, beq_true, beq_false, Bool.true_beq, Bool.false_beq, BEq.rfl, Int.reduceEq, Int.reduceLT, Int.reduceLE, Nat.reduceEqDiff, decide_true, decide_false, Bool.not_true, Bool.not_false, Bool.and_true, Bool.true_and, Bool.and_false, Bool.false_and, Bool.or_true, Bool.true_or, Bool.or_false, Bool.false_or, Bool.not_not, h1]
      rw [wsucc (by omega)]
      exact next
  have hk2 : k = vs.length := by simp at h; omega
  subst hk2
  rw [List.take_of_length_le (Nat.le_refl _)]
  have hbl := bitSeen_length vs s vs.length
  have hpos : ∀ x ∈ bitSeen vs s vs.length, 0 ≤ x.stripe := fun x hx => by obtain ⟨i, _, _, rfl⟩ := bitSeen_mem hx; simp
  refine s_reads_Reads_Stands (ls := plainLocks vs) (by omega) hpos ?_
  rw [stands_plain]
  have hwa : IntKind.wrap .i64 a = a := wi64 (by omega) (by omega)
  have ne : NeZ (vs.length : Int) := ⟨by omega⟩
  try simp only [↓RG, RP, true_and, and_true, beq_true, beq_false, Bool.true_beq, Bool.false_beq, BEq.rfl, Int.reduceEq, Int.reduceLT, Int.reduceLE, Nat.reduceEqDiff, decide_true, decide_false, Bool.not_true, Bool.not_false, Bool.and_true, Bool.true_and, Bool.and_false, Bool.false_and, Bool.or_true, Bool.true_or, Bool.or_false, Bool.false_or, Bool.not_not, hwa]
  obtain ⟨q, hq⟩ := Int.eq_ofNat_of_zero_le (show 0 ≤ a.tmod vs.length from Int.tmod_nonneg _ ha.1)
  have hq2 : q < vs.length := by
    have := Int.tmod_lt_of_pos a (show (0 : Int) < vs.length by omega)
    omega
  have hqp : q < (plainLocks vs).length := by simpa [plainLocks] using hq2
  have e : Elem (plainLocks vs) q ⟨IntKind.wrap .u64 (vs.getD q 0), false, 0⟩ := ⟨plain_at hq2⟩
  have hwq : IntKind.wrap .u64 (q : Int) = q := wu64 (by omega) (by omega)
  have hgb : 0 ≤ vs.getD q 0 ∧ vs.getD q 0 ≤ 255 := by
    have := hvs vs[q] (List.getElem_mem hq2)
    simpa [hq2] using this
  simp only [hq]
  have hbit : ∀ t : Int, decide (IntKind.wrap .u16 ((BitVec.ofInt IntKind.u16.bits (s.fdiv (2 ^ min (q : Int).toNat IntKind.u16.bits)) &&& BitVec.ofInt IntKind.u16.bits 1).toNat) = t) = decide (bitOf s q = t) := fun t => rfl
  refine G.join0 (σ := TLock) (fun l => sl tLockE v ((plainLocks vs).set q l) :: ob ReadsR b (16, bitSeen vs s vs.length) :: L) (fun l => l.held = true ∨ l.version ≠ IntKind.wrap .u64 (vs.getD q 0)) (fun l hl2 => ?_) (fun J2 hJ2 => ?_)
  · refine s_reads_Reads_Stands (ls := (plainLocks vs).set q l) (by omega) hpos ?_
    rw [stands_turned vs s q hq2 l hl2]
    try simp only [↓RG, RP, true_and, and_true, beq_true, beq_false, Bool.true_beq, Bool.false_beq, BEq.rfl, Int.reduceEq, Int.reduceLT, Int.reduceLE, Nat.reduceEqDiff, decide_true, decide_false, Bool.not_true, Bool.not_false, Bool.and_true, Bool.true_and, Bool.and_false, Bool.false_and, Bool.or_true, Bool.true_or, Bool.or_false, Bool.false_or, Bool.not_not, hwq]
    simp only [hbit, beq_self_eq_true]
    exact hK.sub
  · refine G.cond (fun h => ?_) (fun h => ?_)
    · try simp only [↓RG, RP, true_and, and_true, beq_true, beq_false, Bool.true_beq, Bool.false_beq, BEq.rfl, Int.reduceEq, Int.reduceLT, Int.reduceLE, Nat.reduceEqDiff, decide_true, decide_false, Bool.not_true, Bool.not_false, Bool.and_true, Bool.true_and, Bool.and_false, Bool.false_and, Bool.or_true, Bool.true_or, Bool.or_false, Bool.false_or, Bool.not_not]
      exact hJ2 ⟨_, true, _⟩ (.inl rfl)
    · try simp only [↓RG, RP, true_and, and_true, beq_true, beq_false, Bool.true_beq, Bool.false_beq, BEq.rfl, Int.reduceEq, Int.reduceLT, Int.reduceLE, Nat.reduceEqDiff, decide_true, decide_false, Bool.not_true, Bool.not_false, Bool.and_true, Bool.true_and, Bool.and_false, Bool.false_and, Bool.or_true, Bool.true_or, Bool.or_false, Bool.false_or, Bool.not_not]
      exact hJ2 ⟨_, _, _⟩ (.inr (by rw [wrap_byte hgb, wu64 (by omega) (by omega)]; simp; omega))

end
end Go.Proofs.Ytpabihjmjkodbaa.S
