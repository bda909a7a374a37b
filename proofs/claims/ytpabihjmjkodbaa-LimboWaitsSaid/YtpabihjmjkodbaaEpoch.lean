/-
  CHAPTER 5: contracts of package epoch.
-/
import Derived.Test.YtpabihjmjkodbaaBook
namespace Go.Proofs.Ytpabihjmjkodbaa.S
open Go Go.Proofs
set_option linter.unusedVariables false
set_option linter.unusedSimpArgs false

/-- an object of one cell that holds a slice of words -/
def WordsR (b : Nat) (xs : List Int) : Asn := exA fun v => star (pureA (Cells v [v])) (star (own b [v]) (sl wordE v xs))

def passed (xs : List Int) (t : Int) : Bool := xs.all fun v => !(!decide (v = 0) && decide (v ≤ t))

theorem passed_cons (x : Int) (xs : List Int) (t : Int) : passed (x :: xs) t = (!(!decide (x = 0) && decide (x ≤ t)) && passed xs t) := rfl

def leastOf : List Int → Int → Int
  | [], m => m
  | v :: xs, m => leastOf xs (if v ≠ 0 ∧ (m = 0 ∨ v < m) then v else m)

section
variable {w0 : World} {L M : List Asn} {K : KV} {F : World → Prop} {C : Asn → List Asn} {b : Nat} {xs : List Int}

theorem WordsR_open : G w0 (ob WordsR b xs :: M) F = ∀ v, Cells v [v] → G w0 (own b [v] :: sl wordE v xs :: M) F := by
  rw [ob_eq, WordsR]
  simp only [G_ex, G_star, G_pure]

theorem s_epoch_Passed {v : Value} {t : Int} [r : Rd w0 L v wordE 1 xs] (hl : xs.length ≤ 1000000) (hK : G w0 L (K (.bool (passed xs t)))) : G w0 L (CP Try.prog Fn.epoch_Passed [v, u64 t] K) := by
  refine C_epoch_Passed ?_
  unfold S_epoch_Passed
  try simp only [fuse_and, fuse_or, fuse_step, fuse_pair, fuse_in, andP_true]
  try simp only [↓RG, RP, true_and, and_true, beq_true, beq_false, Bool.true_beq, Bool.false_beq, BEq.rfl, Int.reduceEq, Int.reduceLT, Int.reduceLE, Nat.reduceEqDiff, decide_true, decide_false, Bool.not_true, Bool.not_false, Bool.and_true, Bool.true_and, Bool.and_false, Bool.false_and, Bool.or_true, Bool.true_or, Bool.or_false, Bool.false_or, Bool.not_not]
  refine G.loopc1 (fun k : Nat => i64 k) (fun k => k ≤ xs.length ∧ passed xs t = passed (xs.drop k) t) (fun k => xs.length - k) 0 rfl ⟨by omega, by simp⟩ ?_
  rintro k ⟨hk, hp⟩ J hJ
  try simp only [↓RG, RP, true_and, and_true, beq_true, beq_false, Bool.true_beq, Bool.false_beq, BEq.rfl, Int.reduceEq, Int.reduceLT, Int.reduceLE, Nat.reduceEqDiff, decide_true, decide_false, Bool.not_true, Bool.not_false, Bool.and_true, Bool.true_and, Bool.and_false, Bool.false_and, Bool.or_true, Bool.true_or, Bool.or_false, Bool.false_or, Bool.not_not]
  refine G.cond (fun h => ?_) (fun h => ?_)
  · have hk2 : k < xs.length := by simpa using h
    have e := elem_of hk2
    have hd := List.drop_eq_getElem_cons hk2
    try simp only [↓RG, RP, true_and, and_true, beq_true, beq_false, Bool.true_beq, Bool.false_beq, BEq.rfl, Int.reduceEq, Int.reduceLT, Int.reduceLE, Nat.reduceEqDiff, decide_true, decide_false, Bool.not_true, Bool.not_false, Bool.and_true, Bool.true_and, Bool.and_false, Bool.false_and, Bool.or_true, Bool.true_or, Bool.or_false, Bool.false_or, Bool.not_not]
    refine G.cond (fun h => ?_) (fun h => ?_)
    · have : passed xs t = false := by rw [hp, hd]; simp only [passed, List.all_cons, h, Bool.not_true, Bool.false_and]
      rwa [this] at hK
    · rw [wsucc (by omega)]
      exact hJ (k + 1) ⟨by omega, by rw [hp, hd]; simp only [passed, List.all_cons, h, Bool.not_false, Bool.true_and]⟩ (by omega)
  · have : xs.drop k = [] := List.drop_eq_nil_of_le (by simpa using h)
    rw [hp, this] at hK
    exact hK

theorem s_ref1_Passed {v : Value} {t : Int} [r : Rd w0 L v wordE 1 xs] (hl : xs.length ≤ 1000000) (hK : G w0 L (K (.bool (passed xs t)))) : G w0 L (CP Try.prog Fn.ref1_Passed [v, u64 t] K) := by
  refine C_ref1_Passed ?_
  unfold S_ref1_Passed
  refine G.loopc1 (fun k : Nat => i64 k) (fun k => k ≤ xs.length ∧ passed xs t = passed (xs.drop k) t) (fun k => xs.length - k) 0 rfl ⟨by omega, by simp⟩ ?_
  rintro k ⟨hk, hp⟩ J hJ
  try simp only [fuse_and, fuse_or, fuse_step, fuse_pair, fuse_in, andP_true]
  try simp only [↓RG, RP, true_and, and_true, beq_true, beq_false, Bool.true_beq, Bool.false_beq, BEq.rfl, Int.reduceEq, Int.reduceLT, Int.reduceLE, Nat.reduceEqDiff, decide_true, decide_false, Bool.not_true, Bool.not_false, Bool.and_true, Bool.true_and, Bool.and_false, Bool.false_and, Bool.or_true, Bool.true_or, Bool.or_false, Bool.false_or, Bool.not_not]
  refine G.cond (fun h => ?_) (fun h => ?_)
  · have hk2 : k < xs.length := by simpa using h
    have e := elem_of hk2
    have hd := List.drop_eq_getElem_cons hk2
    try simp only [↓RG, RP, true_and, and_true, beq_true, beq_false, Bool.true_beq, Bool.false_beq, BEq.rfl, Int.reduceEq, Int.reduceLT, Int.reduceLE, Nat.reduceEqDiff, decide_true, decide_false, Bool.not_true, Bool.not_false, Bool.and_true, Bool.true_and, Bool.and_false, Bool.false_and, Bool.or_true, Bool.true_or, Bool.or_false, Bool.false_or, Bool.not_not]
    refine G.all (decide (xs[k] ≤ t)) (fun _ K hK => by try simp only [↓RG, RP, true_and, and_true, beq_true, beq_false, Bool.true_beq, Bool.false_beq, BEq.rfl, Int.reduceEq, Int.reduceLT, Int.reduceLE, Nat.reduceEqDiff, decide_true, decide_false, Bool.not_true, Bool.not_false, Bool.and_true, Bool.true_and, Bool.and_false, Bool.false_and, Bool.or_true, Bool.true_or, Bool.or_false, Bool.false_or, Bool.not_not]; exact hK) ?_
    refine G.cond (fun h => ?_) (fun h => ?_)
    · have : passed xs t = false := by rw [hp, hd]; simp only [passed, List.all_cons, h, Bool.not_true, Bool.false_and]
      rwa [this] at hK
    · rw [wsucc (by omega)]
      exact hJ (k + 1) ⟨by omega, by rw [hp, hd]; simp only [passed, List.all_cons, h, Bool.not_false, Bool.true_and]⟩ (by omega)
  · have : xs.drop k = [] := List.drop_eq_nil_of_le (by simpa using h)
    rw [hp, this] at hK
    exact hK

theorem s_epoch_New {n : Int} (hK : ∀ b, G w0 (ob WordsR b (List.replicate (held n 1 4).toNat 0) :: L) (K (ptr b 0))) : G w0 L (CP Try.prog Fn.epoch_New [i64 n] K) := by
  refine C_epoch_New ?_
  unfold S_epoch_New
  try simp only [↓RG, RP, true_and, and_true, beq_true, beq_false, Bool.true_beq, Bool.false_beq, BEq.rfl, Int.reduceEq, Int.reduceLT, Int.reduceLE, Nat.reduceEqDiff, decide_true, decide_false, Bool.not_true, Bool.not_false, Bool.and_true, Bool.true_and, Bool.and_false, Bool.false_and, Bool.or_true, Bool.true_or, Bool.or_false, Bool.false_or, Bool.not_not]
  have e3 : (if (if (4 : Int) < n then (4 : Int) else n) > 1 then (if (4 : Int) < n then (4 : Int) else n) else 1) = ((held n 1 4).toNat : Int) := by
    unfold held; split <;> split <;> split <;> (try split) <;> omega
  have hb := held_le (n := n) (show (1 : Int) ≤ 4 by omega)
  rw [e3]
  refine G.make wordE 0 rfl (by simp only [maxLen]; omega) (by omega) fun v hv => ?_
  try simp only [↓RG, RP, true_and, and_true, beq_true, beq_false, Bool.true_beq, Bool.false_beq, BEq.rfl, Int.reduceEq, Int.reduceLT, Int.reduceLE, Nat.reduceEqDiff, decide_true, decide_false, Bool.not_true, Bool.not_false, Bool.and_true, Bool.true_and, Bool.and_false, Bool.false_and, Bool.or_true, Bool.true_or, Bool.or_false, Bool.false_or, Bool.not_not]
  refine G.box fun b => ?_
  have := hK b
  rw [WordsR_open] at this
  exact this v hv

theorem s_epoch_Slots_Len [i : SelOb L WordsR b xs C] (hK : G w0 L (K (i64 xs.length))) : G w0 L (CP Try.prog Fn.epoch_Slots_Len [ptr b 0] K) := by
  refine i.ro (fun M hK => ?_) hK
  rw [WordsR_open] at *
  intro v hv
  refine C_epoch_Slots_Len ?_
  unfold S_epoch_Slots_Len
  try simp only [↓RG, RP, true_and, and_true, beq_true, beq_false, Bool.true_beq, Bool.false_beq, BEq.rfl, Int.reduceEq, Int.reduceLT, Int.reduceLE, Nat.reduceEqDiff, decide_true, decide_false, Bool.not_true, Bool.not_false, Bool.and_true, Bool.true_and, Bool.and_false, Bool.false_and, Bool.or_true, Bool.true_or, Bool.or_false, Bool.false_or, Bool.not_not]
  exact hK v hv

theorem s_epoch_Slots_Passed {t : Int} [i : SelOb L WordsR b xs C] (hl : xs.length ≤ 1000000) (hK : G w0 L (K (.bool (passed xs t)))) : G w0 L (CP Try.prog Fn.epoch_Slots_Passed [ptr b 0, u64 t] K) := by
  refine i.ro (fun M hK => ?_) hK
  rw [WordsR_open] at *
  intro v hv
  refine C_epoch_Slots_Passed ?_
  unfold S_epoch_Slots_Passed
  try simp only [↓RG, RP, true_and, and_true, beq_true, beq_false, Bool.true_beq, Bool.false_beq, BEq.rfl, Int.reduceEq, Int.reduceLT, Int.reduceLE, Nat.reduceEqDiff, decide_true, decide_false, Bool.not_true, Bool.not_false, Bool.and_true, Bool.true_and, Bool.and_false, Bool.false_and, Bool.or_true, Bool.true_or, Bool.or_false, Bool.false_or, Bool.not_not]
  exact s_epoch_Passed hl (hK v hv)

theorem s_epoch_Slots_All [i : SelOb L WordsR b xs C] (hl : xs.length ≤ 1000000) (hK : ∀ u, Cells u [u] → G w0 (sl wordE u xs :: L) (K u)) : G w0 L (CP Try.prog Fn.epoch_Slots_All [ptr b 0] K) := by
  refine i.roN (fun M hK => ?_) hK
  rw [WordsR_open]
  intro v hv
  refine C_epoch_Slots_All ?_
  unfold S_epoch_Slots_All
  try simp only [↓RG, RP, true_and, and_true, beq_true, beq_false, Bool.true_beq, Bool.false_beq, BEq.rfl, Int.reduceEq, Int.reduceLT, Int.reduceLE, Nat.reduceEqDiff, decide_true, decide_false, Bool.not_true, Bool.not_false, Bool.and_true, Bool.true_and, Bool.and_false, Bool.false_and, Bool.or_true, Bool.true_or, Bool.or_false, Bool.false_or, Bool.not_not]
  refine s_slices_Clone_uint64_uint64 hl fun u hu => ?_
  have := hK u hu
  rw [G_swap, WordsR_open] at this
  exact G.sub (this v hv)

theorem s_epoch_Slots_Copy [i : SelOb L WordsR b xs C] (hl : xs.length ≤ 1000000) (hK : ∀ c, G w0 (ob WordsR c xs :: L) (K (ptr c 0))) : G w0 L (CP Try.prog Fn.epoch_Slots_Copy [ptr b 0] K) := by
  refine C_epoch_Slots_Copy ?_
  unfold S_epoch_Slots_Copy
  refine s_epoch_Slots_All (xs := xs) hl fun u hu => ?_
  try simp only [↓RG, RP, true_and, and_true, beq_true, beq_false, Bool.true_beq, Bool.false_beq, BEq.rfl, Int.reduceEq, Int.reduceLT, Int.reduceLE, Nat.reduceEqDiff, decide_true, decide_false, Bool.not_true, Bool.not_false, Bool.and_true, Bool.true_and, Bool.and_false, Bool.false_and, Bool.or_true, Bool.true_or, Bool.or_false, Bool.false_or, Bool.not_not]
  refine G.box fun c => ?_
  have := hK c
  rw [WordsR_open] at this
  exact this u hu

theorem s_epoch_Slots_is {n : Int} [i : SelOb L WordsR b xs C] (hK : G w0 L (K (.bool (decide (0 ≤ n) && decide (n < xs.length))))) : G w0 L (CP Try.prog Fn.epoch_Slots_is [ptr b 0, i64 n] K) := by
  refine i.ro (fun M hK => ?_) hK
  rw [WordsR_open] at *
  intro v hv
  refine C_epoch_Slots_is ?_
  unfold S_epoch_Slots_is
  try simp only [fuse_and, fuse_or, fuse_step, fuse_pair, fuse_in, andP_true]
  try simp only [↓RG, RP, true_and, and_true, beq_true, beq_false, Bool.true_beq, Bool.false_beq, BEq.rfl, Int.reduceEq, Int.reduceLT, Int.reduceLE, Nat.reduceEqDiff, decide_true, decide_false, Bool.not_true, Bool.not_false, Bool.and_true, Bool.true_and, Bool.and_false, Bool.false_and, Bool.or_true, Bool.true_or, Bool.or_false, Bool.false_or, Bool.not_not]
  refine G.all (decide (n < xs.length)) (fun _ K hK => by try simp only [↓RG, RP, true_and, and_true, beq_true, beq_false, Bool.true_beq, Bool.false_beq, BEq.rfl, Int.reduceEq, Int.reduceLT, Int.reduceLE, Nat.reduceEqDiff, decide_true, decide_false, Bool.not_true, Bool.not_false, Bool.and_true, Bool.true_and, Bool.and_false, Bool.false_and, Bool.or_true, Bool.true_or, Bool.or_false, Bool.false_or, Bool.not_not]; exact hK) ?_
  exact hK v hv

/-- is n a place of the row? -/
def inRow (n : Int) (xs : List Int) : Bool := decide (0 ≤ n) && decide (n < xs.length)
theorem inRow_elim {n : Int} {xs : List Int} (h : inRow n xs = true) : ∃ k : Nat, n = k ∧ k < xs.length := by
  simp [inRow] at h
  exact ⟨n.toNat, by omega, by omega⟩

theorem s_epoch_Slots_Load {n : Int} [i : SelOb L WordsR b xs C] (h1 : ∀ k : Nat, n = k → k < xs.length → G w0 L (K (.tuple #[u64 (xs.getD k 0), i64 0]))) (h0 : inRow n xs = false → G w0 L (K (.tuple #[u64 0, i64 2]))) :
    G w0 L (CP Try.prog Fn.epoch_Slots_Load [ptr b 0, i64 n] K) := by
  refine C_epoch_Slots_Load ?_
  unfold S_epoch_Slots_Load
  refine s_epoch_Slots_is ?_
  try simp only [↓RG, RP, true_and, and_true, beq_true, beq_false, Bool.true_beq, Bool.false_beq, BEq.rfl, Int.reduceEq, Int.reduceLT, Int.reduceLE, Nat.reduceEqDiff, decide_true, decide_false, Bool.not_true, Bool.not_false, Bool.and_true, Bool.true_and, Bool.and_false, Bool.false_and, Bool.or_true, Bool.true_or, Bool.or_false, Bool.false_or, Bool.not_not]
  refine G.cond (fun h => ?_) (fun h => ?_)
  · exact h0 (by simpa [inRow, Decidable.imp_iff_not_or] using h)
  · obtain ⟨k, rfl, hk⟩ := inRow_elim (by simpa [inRow] using h)
    refine i.ro (fun M hK => ?_) (h1 k rfl hk)
    rw [WordsR_open] at *
    intro v hv
    have e := elem_of hk
    try simp only [↓RG, RP, true_and, and_true, beq_true, beq_false, Bool.true_beq, Bool.false_beq, BEq.rfl, Int.reduceEq, Int.reduceLT, Int.reduceLE, Nat.reduceEqDiff, decide_true, decide_false, Bool.not_true, Bool.not_false, Bool.and_true, Bool.true_and, Bool.and_false, Bool.false_and, Bool.or_true, Bool.true_or, Bool.or_false, Bool.false_or, Bool.not_not]
    have := hK v hv
    simpa [hk] using this

theorem s_epoch_Slots_Store {n x : Int} [i : SelOb L WordsR b xs C] (h1 : ∀ k : Nat, n = k → k < xs.length → G w0 (C (ob WordsR b (xs.set k x))) (K (i64 0))) (h0 : inRow n xs = false → G w0 L (K (i64 2))) :
    G w0 L (CP Try.prog Fn.epoch_Slots_Store [ptr b 0, i64 n, u64 x] K) := by
  refine C_epoch_Slots_Store ?_
  unfold S_epoch_Slots_Store
  refine s_epoch_Slots_is ?_
  try simp only [↓RG, RP, true_and, and_true, beq_true, beq_false, Bool.true_beq, Bool.false_beq, BEq.rfl, Int.reduceEq, Int.reduceLT, Int.reduceLE, Nat.reduceEqDiff, decide_true, decide_false, Bool.not_true, Bool.not_false, Bool.and_true, Bool.true_and, Bool.and_false, Bool.false_and, Bool.or_true, Bool.true_or, Bool.or_false, Bool.false_or, Bool.not_not]
  refine G.cond (fun h => ?_) (fun h => ?_)
  · exact h0 (by simpa [inRow, Decidable.imp_iff_not_or] using h)
  · obtain ⟨k, rfl, hk⟩ := inRow_elim (by simpa [inRow] using h)
    refine i.use (fun M hK => ?_) (h1 k rfl hk)
    rw [WordsR_open] at *
    intro v hv
    have e := elem_of hk
    try simp only [↓RG, RP, true_and, and_true, beq_true, beq_false, Bool.true_beq, Bool.false_beq, BEq.rfl, Int.reduceEq, Int.reduceLT, Int.reduceLE, Nat.reduceEqDiff, decide_true, decide_false, Bool.not_true, Bool.not_false, Bool.and_true, Bool.true_and, Bool.and_false, Bool.false_and, Bool.or_true, Bool.true_or, Bool.or_false, Bool.false_or, Bool.not_not]
    exact hK v hv

theorem s_epoch_Slots_Least [i : SelOb L WordsR b xs C] (hl : xs.length ≤ 1000000) (hK : G w0 L (K (.tuple #[u64 (leastOf xs 0), .bool (!decide (leastOf xs 0 = 0))]))) : G w0 L (CP Try.prog Fn.epoch_Slots_Least [ptr b 0] K) := by
  refine i.ro (fun M hK => ?_) hK
  rw [WordsR_open] at *
  intro v hv
  refine C_epoch_Slots_Least ?_
  unfold S_epoch_Slots_Least
  try simp only [fuse_and, fuse_or, fuse_step, fuse_pair, fuse_in, andP_true]
  try simp only [↓RG, RP, true_and, and_true, beq_true, beq_false, Bool.true_beq, Bool.false_beq, BEq.rfl, Int.reduceEq, Int.reduceLT, Int.reduceLE, Nat.reduceEqDiff, decide_true, decide_false, Bool.not_true, Bool.not_false, Bool.and_true, Bool.true_and, Bool.and_false, Bool.false_and, Bool.or_true, Bool.true_or, Bool.or_false, Bool.false_or, Bool.not_not]
  refine G.loopc2 (fun s : Int × Nat => u64 s.1) (fun s => i64 s.2) (fun s => s.2 ≤ xs.length ∧ leastOf xs 0 = leastOf (xs.drop s.2) s.1) (fun s => xs.length - s.2) (0, 0) rfl rfl ⟨by simp, by simp⟩ ?_
  rintro ⟨m, k⟩ ⟨hk, hp⟩ J hJ
  simp only at hk hp hJ ⊢
  try simp only [↓RG, RP, true_and, and_true, beq_true, beq_false, Bool.true_beq, Bool.false_beq, BEq.rfl, Int.reduceEq, Int.reduceLT, Int.reduceLE, Nat.reduceEqDiff, decide_true, decide_false, Bool.not_true, Bool.not_false, Bool.and_true, Bool.true_and, Bool.and_false, Bool.false_and, Bool.or_true, Bool.true_or, Bool.or_false, Bool.false_or, Bool.not_not]
  refine G.cond (fun h => ?_) (fun h => ?_)
  · have hk2 : k < xs.length := by simpa using h
    have e := elem_of hk2
    have hd := List.drop_eq_getElem_cons hk2
    rw [hd, leastOf] at hp
    try simp only [↓RG, RP, true_and, and_true, beq_true, beq_false, Bool.true_beq, Bool.false_beq, BEq.rfl, Int.reduceEq, Int.reduceLT, Int.reduceLE, Nat.reduceEqDiff, decide_true, decide_false, Bool.not_true, Bool.not_false, Bool.and_true, Bool.true_and, Bool.and_false, Bool.false_and, Bool.or_true, Bool.true_or, Bool.or_false, Bool.false_or, Bool.not_not]
    refine G.joinc1 (fun m' : Int => u64 m') (fun m' => leastOf xs 0 = leastOf (xs.drop (k + 1)) m') (fun m' hm' => ?_) (fun J2 hJ2 => ?_)
    · try simp only [↓RG, RP, true_and, and_true, beq_true, beq_false, Bool.true_beq, Bool.false_beq, BEq.rfl, Int.reduceEq, Int.reduceLT, Int.reduceLE, Nat.reduceEqDiff, decide_true, decide_false, Bool.not_true, Bool.not_false, Bool.and_true, Bool.true_and, Bool.and_false, Bool.false_and, Bool.or_true, Bool.true_or, Bool.or_false, Bool.false_or, Bool.not_not]
      rw [wsucc (by omega)]
      exact hJ (m', k + 1) ⟨by simp; omega, hm'⟩ (by simp; omega)
    · refine G.cond (fun h => ?_) (fun h => ?_)
      · rw [if_pos (by simpa using h)] at hp
        exact hJ2 _ hp
      · rw [if_neg (by simpa using h)] at hp
        exact hJ2 _ hp
  · have : xs.drop k = [] := List.drop_eq_nil_of_le (by simpa using h)
    rw [this, leastOf] at hp
    try simp only [↓RG, RP, true_and, and_true, beq_true, beq_false, Bool.true_beq, Bool.false_beq, BEq.rfl, Int.reduceEq, Int.reduceLT, Int.reduceLE, Nat.reduceEqDiff, decide_true, decide_false, Bool.not_true, Bool.not_false, Bool.and_true, Bool.true_and, Bool.and_false, Bool.false_and, Bool.or_true, Bool.true_or, Bool.or_false, Bool.false_or, Bool.not_not]
    rw [← hp]
    exact hK v hv

end
end Go.Proofs.Ytpabihjmjkodbaa.S
