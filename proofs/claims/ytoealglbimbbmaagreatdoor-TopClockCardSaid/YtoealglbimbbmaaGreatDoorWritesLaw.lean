/-
  CHAPTER 8: the statements' own functions.
-/
import Derived.Test.YtoealglbimbbmaaGreatDoorWrites
import Derived.Test.YtoealglbimbbmaaGreatDoorStripe
import Derived.Test.YtoealglbimbbmaaGreatDoorSort
namespace Go.Proofs.YtoealglbimbbmaaGreatDoor.S
open Go Go.Proofs
set_option linter.unusedVariables false
set_option linter.unusedSimpArgs false

/-- the stripes of cells, as they come -/
def stripesOf (cs : List TCell) (n wide : Int) : List Int := (cs.map fun c => stripeOf c.place n wide).filter fun i => decide (0 ≤ i)
theorem stripesOf_take {cs : List TCell} {n wide : Int} {k : Nat} (hk : k < cs.length) : stripesOf (cs.take (k + 1)) n wide = if 0 ≤ stripeOf cs[k].place n wide then stripesOf (cs.take k) n wide ++ [stripeOf cs[k].place n wide] else stripesOf (cs.take k) n wide := by
  unfold stripesOf
  rw [List.take_add_one, List.getElem?_eq_getElem hk, List.map_append, List.filter_append]
  split
  · rename_i h; simp [h]
  · rename_i h; simp [h]
theorem stripesOf_le {cs : List TCell} {n wide : Int} : (stripesOf cs n wide).length ≤ cs.length := by
  unfold stripesOf
  exact Nat.le_trans (List.length_filter_le _ _) (by simp)

section
variable {w0 : Base} {L M : List Asn} {K : KV} {F : World → Prop} {C : Asn → List Asn} {b : Nat} {cs : List TCell}

theorem s_writes_Stripes {v : Value} {n wide : Int} [r : Rd w0 L v tCellE 2 cs] (hl : cs.length ≤ 100000) (hK : ∀ u, Cells u [u] → G w0 (sl intE u (Lib.compact ((stripesOf cs n wide).mergeSort fun x y => decide (x ≤ y))) :: L) (K u)) : G w0 L (CP Tryz.prog Fn.writes_Stripes [v, i64 n, i64 wide] K) := by
  refine C_writes_Stripes ?_
  unfold S_writes_Stripes
  try simp (maxSteps := 2000000) only [↓RG, RP, RB, BEq.rfl, Int.reduceEq, Int.reduceLT, Int.reduceLE, Nat.reduceEqDiff]
  refine G.nilsl intE ?_
  refine G.loop2 (σ := Value × Nat) (fun z => z.1) (fun z => i64 z.2) (fun z => sl intE z.1 (stripesOf (cs.take z.2) n wide) :: L) (fun z => z.2 ≤ cs.length ∧ Cells z.1 [z.1]) (fun z => cs.length - z.2) (.slice none 0 0, 0) rfl rfl rfl ⟨by simp, cells_slice⟩ ?_
  rintro ⟨u, k⟩ ⟨hk, hu⟩ J hJ
  simp only at hk hu hJ ⊢
  have hle := stripesOf_le (cs := cs.take k) (n := n) (wide := wide)
  have hle2 : (cs.take k).length ≤ cs.length := by rw [List.length_take]; omega
  try simp (maxSteps := 2000000) only [↓RG, RP, RB, BEq.rfl, Int.reduceEq, Int.reduceLT, Int.reduceLE, Nat.reduceEqDiff]
  refine G.cond (fun h => ?_) (fun h => ?_)
  · have hk2 : k < cs.length := by simpa using h
    have e := elem_of hk2
    have t := stripesOf_take (n := n) (wide := wide) hk2
    try simp (maxSteps := 2000000) only [↓RG, RP, RB, BEq.rfl, Int.reduceEq, Int.reduceLT, Int.reduceLE, Nat.reduceEqDiff]
    refine G.new fun p => ?_
    try simp (maxSteps := 2000000) only [↓RG, RP, RB, BEq.rfl, Int.reduceEq, Int.reduceLT, Int.reduceLE, Nat.reduceEqDiff]
    refine s_stripe_Of ?_
    try simp (maxSteps := 2000000) only [↓RG, RP, RB, BEq.rfl, Int.reduceEq, Int.reduceLT, Int.reduceLE, Nat.reduceEqDiff]
    refine G.join1 (fun y : Value => y) (fun y => sl intE y (stripesOf (cs.take (k + 1)) n wide) :: L) (fun y => Cells y [y]) ?_ (fun J2 hJ2 => ?_)
    · intro y hy
      try simp (maxSteps := 2000000) only [↓RG, RP, RB, BEq.rfl, Int.reduceEq, Int.reduceLT, Int.reduceLE, Nat.reduceEqDiff]
      rw [wsucc (by omega)]
      exact hJ (y, k + 1) ⟨hk2, hy⟩ (by simp; omega)
    · refine G.cond (fun h2 => ?_) (fun h2 => ?_)
      · rw [if_pos (by simpa using h2)] at t
        refine G.append1 (E := intE) rfl rfl (by decide) (by omega) (by simp only [maxLen]; omega) fun y hy => ?_
        have h := hJ2 y hy
        rw [t] at h
        exact h.sub
      · rw [if_neg (by simpa using h2)] at t
        have h := hJ2 u hu
        rw [t] at h
        exact h.sub
  · have ht : cs.take k = cs := List.take_of_length_le (by simpa using h)
    rw [ht] at hle ⊢
    refine s_slices_Sort_int_int (zs := stripesOf cs n wide) (by omega) ?_
    try simp (maxSteps := 2000000) only [↓RG, RP, RB, BEq.rfl, Int.reduceEq, Int.reduceLT, Int.reduceLE, Nat.reduceEqDiff]
    refine s_slices_Compact_int_int (zs := (stripesOf cs n wide).mergeSort fun x y => decide (x ≤ y)) (by rw [List.length_mergeSort]; omega) fun y hy => ?_
    exact hK y hy

end
end Go.Proofs.YtoealglbimbbmaaGreatDoor.S
