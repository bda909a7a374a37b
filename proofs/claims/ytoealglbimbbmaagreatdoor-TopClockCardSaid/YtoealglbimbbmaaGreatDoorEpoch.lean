/-
  CHAPTER 5: contracts of package epoch.
-/
import Derived.Test.YtoealglbimbbmaaGreatDoorBook
namespace Go.Proofs.YtoealglbimbbmaaGreatDoor.S
open Go Go.Proofs
set_option linter.unusedVariables false
set_option linter.unusedSimpArgs false

def passed (xs : List Int) (t : Int) : Bool := xs.all fun v => !(!decide (v = 0) && decide (v ≤ t))

theorem passed_cons (x : Int) (xs : List Int) (t : Int) : passed (x :: xs) t = (!(!decide (x = 0) && decide (x ≤ t)) && passed xs t) := rfl

def leastOf : List Int → Int → Int
  | [], m => m
  | v :: xs, m => leastOf xs (if v ≠ 0 ∧ (m = 0 ∨ v < m) then v else m)

section
variable {w0 : Base} {L M : List Asn} {K : KV} {F : World → Prop} {C : Asn → List Asn} {b : Nat} {xs : List Int}

theorem s_epoch_New {n : Int} (hK : ∀ b, G w0 (ob WordsR b (List.replicate (held n 1 4).toNat 0) :: L) (K (ptr b 0))) : G w0 L (CP Tryz.prog Fn.epoch_New [i64 n] K) := by
  refine C_epoch_New ?_
  unfold S_epoch_New
  try simp (maxSteps := 2000000) only [↓RG, RP, RB, BEq.rfl, Int.reduceEq, Int.reduceLT, Int.reduceLE, Nat.reduceEqDiff]
  have e3 : (if (if (4 : Int) < n then (4 : Int) else n) > 1 then (if (4 : Int) < n then (4 : Int) else n) else 1) = ((held n 1 4).toNat : Int) := by
    unfold held; split <;> split <;> split <;> (try split) <;> omega
  have hb := held_le (n := n) (show (1 : Int) ≤ 4 by omega)
  rw [e3]
  refine G.make wordE 0 rfl (by simp only [maxLen]; omega) (by omega) fun v hv => ?_
  try simp (maxSteps := 2000000) only [↓RG, RP, RB, BEq.rfl, Int.reduceEq, Int.reduceLT, Int.reduceLE, Nat.reduceEqDiff]
  refine G.box fun b => ?_
  have := hK b
  rw [WordsR_open] at this
  exact this v hv

theorem s_epoch_Slots_is {n : Int} [i : SelOb L WordsR b xs C] (hK : G w0 L (K (.bool (decide (0 ≤ n) && decide (n < xs.length))))) : G w0 L (CP Tryz.prog Fn.epoch_Slots_is [ptr b 0, i64 n] K) := by
  refine i.ro (fun M hK => ?_) hK
  rw [WordsR_open] at *
  intro v hv
  refine C_epoch_Slots_is ?_
  unfold S_epoch_Slots_is
  try simp (maxSteps := 2000000) only [fuse_and, fuse_or, fuse_step, fuse_pair, fuse_in, andP_true]
  try simp (maxSteps := 2000000) only [↓RG, RP, RB, BEq.rfl, Int.reduceEq, Int.reduceLT, Int.reduceLE, Nat.reduceEqDiff]
  refine G.all (decide (n < xs.length)) (fun _ K hK => by try simp (maxSteps := 2000000) only [↓RG, RP, RB, BEq.rfl, Int.reduceEq, Int.reduceLT, Int.reduceLE, Nat.reduceEqDiff]; exact hK) ?_
  exact hK v hv

/-- is n a place of the row? -/
def inRow (n : Int) (xs : List Int) : Bool := decide (0 ≤ n) && decide (n < xs.length)
theorem inRow_elim {n : Int} {xs : List Int} (h : inRow n xs = true) : ∃ k : Nat, n = k ∧ k < xs.length := by
  simp [inRow] at h
  exact ⟨n.toNat, by omega, by omega⟩

theorem s_epoch_Slots_Load {n : Int} [i : SelOb L WordsR b xs C] (h1 : ∀ k : Nat, n = k → k < xs.length → G w0 L (K (.tuple #[u64 (xs.getD k 0), i64 0]))) (h0 : inRow n xs = false → G w0 L (K (.tuple #[u64 0, i64 2]))) :
    G w0 L (CP Tryz.prog Fn.epoch_Slots_Load [ptr b 0, i64 n] K) := by
  refine C_epoch_Slots_Load ?_
  unfold S_epoch_Slots_Load
  refine s_epoch_Slots_is ?_
  try simp (maxSteps := 2000000) only [↓RG, RP, RB, BEq.rfl, Int.reduceEq, Int.reduceLT, Int.reduceLE, Nat.reduceEqDiff]
  refine G.cond (fun h => ?_) (fun h => ?_)
  · exact h0 (by simpa [inRow, Decidable.imp_iff_not_or] using h)
  · obtain ⟨k, rfl, hk⟩ := inRow_elim (by simpa [inRow] using h)
    refine i.ro (fun M hK => ?_) (h1 k rfl hk)
    rw [WordsR_open] at *
    intro v hv
    have e := elem_of hk
    try simp (maxSteps := 2000000) only [↓RG, RP, RB, BEq.rfl, Int.reduceEq, Int.reduceLT, Int.reduceLE, Nat.reduceEqDiff]
    have := hK v hv
    simpa [hk] using this

theorem s_epoch_Slots_Store {n x : Int} [i : SelOb L WordsR b xs C] (h1 : ∀ k : Nat, n = k → k < xs.length → G w0 (C (ob WordsR b (xs.set k x))) (K (i64 0))) (h0 : inRow n xs = false → G w0 L (K (i64 2))) :
    G w0 L (CP Tryz.prog Fn.epoch_Slots_Store [ptr b 0, i64 n, u64 x] K) := by
  refine C_epoch_Slots_Store ?_
  unfold S_epoch_Slots_Store
  refine s_epoch_Slots_is ?_
  try simp (maxSteps := 2000000) only [↓RG, RP, RB, BEq.rfl, Int.reduceEq, Int.reduceLT, Int.reduceLE, Nat.reduceEqDiff]
  refine G.cond (fun h => ?_) (fun h => ?_)
  · exact h0 (by simpa [inRow, Decidable.imp_iff_not_or] using h)
  · obtain ⟨k, rfl, hk⟩ := inRow_elim (by simpa [inRow] using h)
    refine i.use (fun M hK => ?_) (h1 k rfl hk)
    rw [WordsR_open] at *
    intro v hv
    have e := elem_of hk
    try simp (maxSteps := 2000000) only [↓RG, RP, RB, BEq.rfl, Int.reduceEq, Int.reduceLT, Int.reduceLE, Nat.reduceEqDiff]
    exact hK v hv

end
end Go.Proofs.YtoealglbimbbmaaGreatDoor.S
