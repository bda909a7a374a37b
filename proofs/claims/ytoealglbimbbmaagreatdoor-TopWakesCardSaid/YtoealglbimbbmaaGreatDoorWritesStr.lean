import Derived.Test.YtoealglbimbbmaaGreatDoorWrites
import Derived.Test.YtoealglbimbbmaaGreatDoorStripe
import Derived.Test.YtoealglbimbbmaaGreatDoorSort
import Derived.Test.YtoealglbimbbmaaGreatDoorArr
namespace Go.Proofs.YtoealglbimbbmaaGreatDoor.S
open Go Go.Proofs
set_option linter.unusedVariables false
set_option linter.unusedSimpArgs false
def stripesOf (cs : List TCell) (n wide : Int) : List Int := (cs.map fun c => stripeOf c.place n wide).filter fun i => decide (0 ≤ i)
theorem stripesOf_take {cs : List TCell} {n wide : Int} {k : Nat} (hk : k < cs.length) : stripesOf (cs.take (k + 1)) n wide = if 0 ≤ stripeOf cs[k].place n wide then stripesOf (cs.take k) n wide ++ [stripeOf cs[k].place n wide] else stripesOf (cs.take k) n wide := by
 unfold stripesOf
 rw [List.take_add_one, List.getElem?_eq_getElem hk, List.map_append, List.filter_append]
 split
 ·rename_i h; simp [h]
 ·rename_i h; simp [h]
theorem stripesOf_le {cs : List TCell} {n wide : Int} : (stripesOf cs n wide).length ≤ cs.length := by
 unfold stripesOf
 exact Nat.le_trans (List.length_filter_le _ _) (by simp)
section
variable {w0 : Base} {L M : List Asn} {K : KV} {F : World → Prop} {C : Asn → List Asn} {b : Nat} {cs : List TCell}
theorem s_writes_Stripes {v : Value} {n wide : Int} [r : Rd w0 L v tCellE 2 cs] (hl : cs.length ≤ 100000) (hK : ∀ u, Cells u [u] → G w0 (sl intE u (Lib.compact ((stripesOf cs n wide).mergeSort fun x y => decide (x ≤ y))) :: L) (K u)) : G w0 L (CP Tryz.prog Fn.writes_Stripes [v, i64 n, i64 wide] K) := by
 refine C_writes_Stripes ?_
 unfold S_writes_Stripes
 refine gr ?_
 refine G.nilsl intE ?_
 refine G.loop2 (σ := Value × Nat) (fun z => z.1) (fun z => i64 z.2) (fun z => sl intE z.1 (stripesOf (cs.take z.2) n wide) :: L) (fun z => z.2 ≤ cs.length ∧ Cells z.1 [z.1]) (fun z => cs.length - z.2) (.slice none 0 0, 0) rfl rfl rfl ⟨by simp, cells_slice⟩ ?_
 rintro ⟨u, k⟩ ⟨hk, hu⟩ J hJ
 simp only at hk hu hJ ⊢
 have hle := stripesOf_le (cs := cs.take k) (n := n) (wide := wide)
 have hle2 : (cs.take k).length ≤ cs.length := by rw [List.length_take]; omega
 refine gr ?_
 refine G.cond (fun h => ?_) (fun h => ?_)
 ·have hk2 : k < cs.length := by simpa using h
  have e := elem_of hk2
  have t := stripesOf_take (n := n) (wide := wide) hk2
  refine gr ?_
  refine G.new fun p => ?_
  refine gr ?_
  refine s_stripe_Of ?_
  refine gr ?_
  refine G.join1 (fun y : Value => y) (fun y => sl intE y (stripesOf (cs.take (k + 1)) n wide) :: L) (fun y => Cells y [y]) ?_ (fun J2 hJ2 => ?_)
  ·intro y hy
   refine gr ?_
   rw [wsucc (by omega)]
   exact hJ (y, k + 1) ⟨hk2, hy⟩ (by simp; omega)
  ·refine G.cond (fun h2 => ?_) (fun h2 => ?_)
   ·rw [if_pos (by simpa using h2)] at t
    refine G.append1 (E := intE) rfl rfl (by decide) (by omega) (by simp only [maxLen]; omega) fun y hy => ?_
    have h := hJ2 y hy
    rw [t] at h
    exact h.sub
   ·rw [if_neg (by simpa using h2)] at t
    have h := hJ2 u hu
    rw [t] at h
    exact h.sub
 ·have ht : cs.take k = cs := List.take_of_length_le (by simpa using h)
  rw [ht] at hle ⊢
  refine s_slices_Sort_int_int (zs := stripesOf cs n wide) (by omega) ?_
  refine gr ?_
  refine s_slices_Compact_int_int (zs := (stripesOf cs n wide).mergeSort fun x y => decide (x ≤ y)) (by rw [List.length_mergeSort]; omega) fun y hy => ?_
  exact hK y hy
end
end Go.Proofs.YtoealglbimbbmaaGreatDoor.S
namespace Go.Proofs.YtoealglbimbbmaaGreatDoor.S
open Go Go.Proofs
set_option linter.unusedVariables false
set_option linter.unusedSimpArgs false
def marked (f : Nat → Bool) (m : Nat) : List Int := ((List.range m).filter f).map fun (j : Nat) => (j : Int)
theorem marked_rising {f : Nat → Bool} {m : Nat} : (marked f m).Pairwise (· < ·) := by
 unfold marked
 rw [List.pairwise_map]
 exact (List.Pairwise.filter _ List.pairwise_lt_range).imp (fun h => by omega)
theorem mem_marked {f : Nat → Bool} {m : Nat} {x : Int} : x ∈ marked f m ↔ ∃ j, j < m ∧ f j = true ∧ (j : Int) = x := by
 simp [marked, and_assoc]
theorem stripeOf_lt {a n wide : Int} (h : 0 ≤ stripeOf a n wide) : ∃ s : Nat, stripeOf a n wide = (s : Int) ∧ s < 16 := by
 have hb := held_le (n := n) (show (1 : Int) ≤ 16 by omega)
 have h2 : stripeOf a n wide < 16 := by
  unfold stripeOf at h ⊢
  split
  ·omega
  ·have := Int.tmod_lt_of_pos (IntKind.wrap .i64 (a.tdiv (held wide 1 16))) (show 0 < held n 1 16 by omega)
   omega
 exact ⟨(stripeOf a n wide).toNat, by omega, by omega⟩
def hasStripe (cs : List TCell) (n wide : Int) (j : Nat) : Bool := (stripesOf cs n wide).contains (j : Int)
theorem stripes_rising {cs : List TCell} {n wide : Int} : Lib.compact ((stripesOf cs n wide).mergeSort fun x y => decide (x ≤ y)) = marked (hasStripe cs n wide) 16 := by
 refine sort_compact marked_rising fun x => ?_
 rw [mem_marked]
 constructor
 ·rintro ⟨j, _, h, rfl⟩
  simpa [hasStripe] using h
 ·intro h
  have h2 := h
  simp only [stripesOf, List.mem_filter, List.mem_map, decide_eq_true_eq] at h2
  obtain ⟨⟨c, _, rfl⟩, h0⟩ := h2
  obtain ⟨s, e, hs⟩ := stripeOf_lt h0
  rw [e] at h ⊢
  exact ⟨s, hs, by simpa [hasStripe] using h, rfl⟩
section
variable {w0 : Base} {L M : List Asn} {K : KV} {F : World → Prop} {C : Asn → List Asn} {b : Nat} {cs : List TCell}
set_option maxHeartbeats 1000000 in
end
end Go.Proofs.YtoealglbimbbmaaGreatDoor.S
