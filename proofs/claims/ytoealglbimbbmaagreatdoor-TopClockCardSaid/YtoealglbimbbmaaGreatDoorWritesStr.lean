/-
  CHAPTER 8: WritesStripes, WritesLast.
-/
import Derived.Test.YtoealglbimbbmaaGreatDoorWritesLaw
import Derived.Test.YtoealglbimbbmaaGreatDoorArr
namespace Go.Proofs.YtoealglbimbbmaaGreatDoor.S
open Go Go.Proofs
set_option linter.unusedVariables false
set_option linter.unusedSimpArgs false

/-- the numbers below m that are marked, rising -/
def marked (f : Nat → Bool) (m : Nat) : List Int := ((List.range m).filter f).map fun (j : Nat) => (j : Int)
theorem marked_zero {f : Nat → Bool} : marked f 0 = [] := rfl
theorem marked_succ {f : Nat → Bool} {m : Nat} : marked f (m + 1) = if f m then marked f m ++ [(m : Int)] else marked f m := by
  unfold marked
  rw [List.range_succ, List.filter_append, List.map_append]
  by_cases h : f m <;> simp [h]
theorem marked_rising {f : Nat → Bool} {m : Nat} : (marked f m).Pairwise (· < ·) := by
  unfold marked
  rw [List.pairwise_map]
  exact (List.Pairwise.filter _ List.pairwise_lt_range).imp (fun h => by omega)
theorem mem_marked {f : Nat → Bool} {m : Nat} {x : Int} : x ∈ marked f m ↔ ∃ j, j < m ∧ f j = true ∧ (j : Int) = x := by
  simp [marked, and_assoc]

theorem stripeOf_lt {a n wide : Int} (h : 0 ≤ stripeOf a n wide) : ∃ s : Nat, stripeOf a n wide = (s : Int) ∧ s < 16 := by
  have hb := held_le (n := n) (show (1 : Int) ≤ 16 by omega)
  have h2 : stripeOf a n wide < 16 := by
    unfold stripeOf at h ⊢
    split
    · omega
    · have := Int.tmod_lt_of_pos (IntKind.wrap .i64 (a.tdiv (held wide 1 16))) (show 0 < held n 1 16 by omega)
      omega
  exact ⟨(stripeOf a n wide).toNat, by omega, by omega⟩

/-- which stripes there are -/
def hasStripe (cs : List TCell) (n wide : Int) (j : Nat) : Bool := (stripesOf cs n wide).contains (j : Int)

theorem stripes_rising {cs : List TCell} {n wide : Int} : Lib.compact ((stripesOf cs n wide).mergeSort fun x y => decide (x ≤ y)) = marked (hasStripe cs n wide) 16 := by
  refine sort_compact marked_rising fun x => ?_
  rw [mem_marked]
  constructor
  · rintro ⟨j, _, h, rfl⟩
    simpa [hasStripe] using h
  · intro h
    have h2 := h
    simp only [stripesOf, List.mem_filter, List.mem_map, decide_eq_true_eq] at h2
    obtain ⟨⟨c, _, rfl⟩, h0⟩ := h2
    obtain ⟨s, e, hs⟩ := stripeOf_lt h0
    rw [e] at h ⊢
    exact ⟨s, hs, by simpa [hasStripe] using h, rfl⟩

theorem lookC_get : ∀ {cs : List TCell} {k : Nat} (hk : k < cs.length), (cs.map (·.place)).Nodup → lookC cs cs[k].place = some cs[k].word
  | c :: cs, 0, _, _ => by simp [lookC]
  | c :: cs, k + 1, hk, h => by
    simp only [List.map_cons, List.nodup_cons] at h
    have hk2 : k < cs.length := by simpa using hk
    have : c.place ≠ cs[k].place := fun e => h.1 (List.mem_map.2 ⟨cs[k], List.getElem_mem hk2, e.symm⟩)
    simp only [List.getElem_cons_succ, lookC, if_neg this]
    exact lookC_get hk2 h.2

section
variable {w0 : Base} {L M : List Asn} {K : KV} {F : World → Prop} {C : Asn → List Asn} {b : Nat} {cs : List TCell}

theorem lookC_isSome_mem {a : Int} : ∀ {cs : List TCell} , (lookC cs a).isSome = true → ∃ c ∈ cs, c.place = a
  | c :: cs, h => by
    unfold lookC at h
    split at h
    · rename_i e; exact ⟨c, by simp, e⟩
    · obtain ⟨d, hd, e⟩ := lookC_isSome_mem h
      exact ⟨d, by simp [hd], e⟩

set_option maxHeartbeats 1000000 in
end
end Go.Proofs.YtoealglbimbbmaaGreatDoor.S
