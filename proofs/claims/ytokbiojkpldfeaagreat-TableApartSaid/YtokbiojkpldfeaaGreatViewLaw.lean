/-
  CHAPTER 10: the statements' own functions (without the reference).
-/
import Derived.Test.YtokbiojkpldfeaaGreatView
namespace Go.Proofs.YtokbiojkpldfeaaGreat.S
open Go Go.Proofs
set_option linter.unusedVariables false
set_option linter.unusedSimpArgs false

/-- the first j words of a heap, all known -/
def knW (ws : List Int) (j : Nat) : List TCell := (List.range j).map fun i : Nat => ⟨(i : Int) + 1, ws.getD (i + 1) 0⟩
theorem knW_succ {ws : List Int} {j : Nat} : knW ws (j + 1) = knW ws j ++ [⟨(j : Int) + 1, ws.getD (j + 1) 0⟩] := by
  unfold knW; rw [List.range_succ, List.map_append]; rfl
theorem knW_len {ws : List Int} {j : Nat} : (knW ws j).length = j := by simp [knW]
theorem knW_none {ws : List Int} : ∀ {j : Nat} {a : Int}, (j : Int) < a → lookC (knW ws j) a = none
  | 0, a, _ => rfl
  | j + 1, a, h => by
    have h0 := knW_none (ws := ws) (j := j) (a := (j : Int) + 1) (by omega)
    rw [knW_succ, lookC_append h0, if_neg (by omega)]
    exact knW_none (by omega)
theorem wrap_next (y : Int) : ¬ IntKind.wrap .u64 (y + 1) = y := by
  intro h
  have h2 : IntKind.wrap .u64 (y + 1) = (y + 1) % 18446744073709551616 := by simp [IntKind.wrap, IntKind.signed, IntKind.bits, IntKind.min, IntKind.max]
  omega

def vNew (w m : Int) : VwS := ⟨(held w 32 256).toNat, [], ⟨held m 0 96, ⟨[], []⟩, []⟩, 0⟩
def vAll (ws : List Int) (m : Int) : VwS := ⟨(held ws.length 32 256).toNat, knW ws ((held ws.length 32 256).toNat - 1), ⟨held m 0 96, ⟨[], []⟩, []⟩, 0⟩

section
variable {w0 : Base} {L M : List Asn} {K : KV} {F : World → Prop} {C : Asn → List Asn} {b : Nat} {s : VwS} {v : Value}

theorem s_view_Whole {ws : List Int} {m : Int} [r : Rd w0 L v wordE 1 ws] (hl : ws.length ≤ 1000) (hK : ∀ b, G w0 (ob ViewR b (vAll ws m) :: L) (K (ptr b 0))) : G w0 L (CP Tryz.prog Fn.view_Whole [v, i64 m] K) := by
  have hb := held_le (n := (ws.length : Int)) (show (32 : Int) ≤ 256 by omega)
  refine C_view_Whole ?_
  unfold S_view_Whole
  try simp (maxSteps := 2000000) only [↓RG, RP, RB, BEq.rfl, Int.reduceEq, Int.reduceLT, Int.reduceLE, Nat.reduceEqDiff]
  refine s_view_New fun b => ?_
  have hK := hK b
  unfold vAll at hK
  generalize hN : (held (ws.length : Int) 32 256).toNat = N at hK
  have hN1 : 32 ≤ N ∧ N ≤ 256 := by omega
  refine G.loop1 (fun j : Nat => i64 (j + 1 : Nat)) (fun j => ob ViewR b ⟨N, knW ws j, ⟨held m 0 96, ⟨[], []⟩, []⟩, 0⟩ :: L) (fun j => j ≤ N - 1) (fun j => N - j) 0 rfl rfl (by simp) ?_
  intro j hj J hJ
  refine s_view_Size (s := ⟨N, knW ws j, ⟨held m 0 96, ⟨[], []⟩, []⟩, 0⟩) ?_
  try simp (maxSteps := 2000000) only [↓RG, RP, RB, BEq.rfl, Int.reduceEq, Int.reduceLT, Int.reduceLE, Nat.reduceEqDiff]
  refine G.cond (fun h => ?_) (fun h => ?_)
  · have hj2 : j + 1 < N := by simp at h; omega
    try simp (maxSteps := 2000000) only [↓RG, RP, RB, BEq.rfl, Int.reduceEq, Int.reduceLT, Int.reduceLE, Nat.reduceEqDiff]
    refine G.join1 (fun x : Int => u64 x) (fun _ => ob ViewR b ⟨N, knW ws j, ⟨held m 0 96, ⟨[], []⟩, []⟩, 0⟩ :: L) (fun x => x = ws.getD (j + 1) 0) ?_ (fun J2 hJ2 => ?_)
    · intro x hx
      subst hx
      refine s_view_Know (s := ⟨N, knW ws j, ⟨held m 0 96, ⟨[], []⟩, []⟩, 0⟩) (by simp only [knW_len]; omega) ?_
      have e : vKnow ⟨N, knW ws j, ⟨held m 0 96, ⟨[], []⟩, []⟩, 0⟩ ((j + 1 : Nat) : Int) (ws.getD (j + 1) 0) = (⟨N, knW ws (j + 1), ⟨held m 0 96, ⟨[], []⟩, []⟩, 0⟩, 0) := by
        unfold vKnow
        rw [if_pos (by simp [isV]; omega)]
        have hn : lookC (knW ws j) ((j + 1 : Nat) : Int) = none := knW_none (by omega)
        simp only [hn]
        rw [knW_succ]; rfl
      rw [e]
      try simp (maxSteps := 2000000) only [↓RG, RP, RB, BEq.rfl, Int.reduceEq, Int.reduceLT, Int.reduceLE, Nat.reduceEqDiff]
      rw [wsucc (by omega)]
      exact hJ (j + 1) (by omega) (by omega)
    · refine G.cond (fun h2 => ?_) (fun h2 => ?_)
      · have hj3 : j + 1 < ws.length := by simp at h2; omega
        have e := elem_of hj3
        try simp (maxSteps := 2000000) only [↓RG, RP, RB, BEq.rfl, Int.reduceEq, Int.reduceLT, Int.reduceLE, Nat.reduceEqDiff]
        exact hJ2 _ (by simp [hj3])
      · have hj3 : ¬ j + 1 < ws.length := by simp at h2; omega
        exact hJ2 0 (by rw [List.getD_eq_getElem?_getD, List.getElem?_eq_none (by omega)]; rfl)
  · have hj2 : j = N - 1 := by simp at h; omega
    rw [hj2]
    exact hK

set_option maxRecDepth 4000 in
theorem lookC_idx {k : List TCell} {a y : Int} (h : lookC k a = some y) : ∃ m, idxC k a = some m ∧ ∃ hm : m < k.length, k[m].word = y := by
  have := idxC_isSome (cs := k) (a := a)
  rw [h] at this
  cases hi : idxC k a with
  | none => rw [hi] at this; cases this
  | some m =>
    obtain ⟨h1, _, _, h4⟩ := idxC_some hi
    rw [h] at h4
    exact ⟨m, rfl, h1, (Option.some.inj h4).symm⟩

set_option maxHeartbeats 1000000 in
end
end Go.Proofs.YtokbiojkpldfeaaGreat.S
