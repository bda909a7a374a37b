/-
  CONTRACTS OF WHAT ALL STATEMENTS CALL: quietusbook.Same, slices.Clone, quietusref1.Held.
-/
import Derived.Test.YtokbiojkpldfeaaGreatSLink
import Derived.Test.YtokbiojkpldfeaaGreatData
namespace Go.Proofs.YtokbiojkpldfeaaGreat.S
open Go Go.Proofs
set_option linter.unusedVariables false
set_option linter.unusedSimpArgs false

theorem s_book_Same_api_Cell {w0 : Base} {L : List Asn} {K : KV} {u v : Value} {sz sz' : Nat} {xs ys : List TCell} [r1 : Rd w0 L u tCellE sz xs] [r2 : Rd w0 L v tCellE sz' ys] (hl : xs.length ≤ 1000000) (hK : G w0 L (K (.bool (decide (xs = ys))))) : G w0 L (CP Tryz.prog Fn.book_Same_api_Cell [u, v] K) := by
  have z1 := r1.sz
  have z2 := r2.sz
  subst z1
  subst z2
  refine C_book_Same_api_Cell ?_
  unfold S_book_Same_api_Cell
  try simp (maxSteps := 2000000) only [↓RG, RP, RB, BEq.rfl, Int.reduceEq, Int.reduceLT, Int.reduceLE, Nat.reduceEqDiff]
  refine G.cond (fun h => ?_) (fun h => ?_)
  · have : ¬ xs = ys := fun e => by subst e; simp at h
    simpa [this] using hK
  · have hlen : xs.length = ys.length := by simp at h; omega
    refine G.loop1 (fun k : Nat => i64 k) (fun _ => L) (fun k => k ≤ xs.length ∧ xs.take k = ys.take k) (fun k => xs.length - k) 0 rfl rfl ⟨by omega, by simp⟩ ?_
    rintro k ⟨hk, hp⟩ J hJ
    try simp (maxSteps := 2000000) only [↓RG, RP, RB, BEq.rfl, Int.reduceEq, Int.reduceLT, Int.reduceLE, Nat.reduceEqDiff]
    refine G.cond (fun h => ?_) (fun h => ?_)
    · have hk2 : k < xs.length := by simp at h; omega
      have hk3 : k < ys.length := by omega
      have e := elem_of hk2
      have e' := elem_of hk3
      refine G.drew ?_
      simp only [↓RG, RP, RB, BEq.rfl, Int.reduceEq, Int.reduceLT, Int.reduceLE, Nat.reduceEqDiff, TCell.eqb]
      refine G.cond (fun h => ?_) (fun h => ?_)
      · have : ¬ xs = ys := fun e => by subst e; simp at h
        simpa [this] using hK
      · have hx : xs[k] = ys[k] := by simpa using h
        rw [wsucc (by omega)]
        exact hJ (k + 1) ⟨by omega, by rw [List.take_add_one, List.take_add_one, hp, List.getElem?_eq_getElem hk2, List.getElem?_eq_getElem hk3, hx]⟩ (by omega)
    · have hk2 : k = xs.length := by simp at h; omega
      have : xs = ys := by rw [hk2, List.take_of_length_le (by omega), List.take_of_length_le (by omega)] at hp; exact hp
      simpa [this] using hK

theorem s_book_Same_int {w0 : Base} {L : List Asn} {K : KV} {u v : Value} {sz sz' : Nat} {xs ys : List Int} [r1 : Rd w0 L u intE sz xs] [r2 : Rd w0 L v intE sz' ys] (hl : xs.length ≤ 1000000) (hK : G w0 L (K (.bool (decide (xs = ys))))) : G w0 L (CP Tryz.prog Fn.book_Same_int [u, v] K) := by
  have z1 := r1.sz
  have z2 := r2.sz
  subst z1
  subst z2
  refine C_book_Same_int ?_
  unfold S_book_Same_int
  try simp (maxSteps := 2000000) only [↓RG, RP, RB, BEq.rfl, Int.reduceEq, Int.reduceLT, Int.reduceLE, Nat.reduceEqDiff]
  refine G.cond (fun h => ?_) (fun h => ?_)
  · have : ¬ xs = ys := fun e => by subst e; simp at h
    simpa [this] using hK
  · have hlen : xs.length = ys.length := by simp at h; omega
    refine G.loop1 (fun k : Nat => i64 k) (fun _ => L) (fun k => k ≤ xs.length ∧ xs.take k = ys.take k) (fun k => xs.length - k) 0 rfl rfl ⟨by omega, by simp⟩ ?_
    rintro k ⟨hk, hp⟩ J hJ
    try simp (maxSteps := 2000000) only [↓RG, RP, RB, BEq.rfl, Int.reduceEq, Int.reduceLT, Int.reduceLE, Nat.reduceEqDiff]
    refine G.cond (fun h => ?_) (fun h => ?_)
    · have hk2 : k < xs.length := by simp at h; omega
      have hk3 : k < ys.length := by omega
      have e := elem_of hk2
      have e' := elem_of hk3
      refine G.drew ?_
      simp only [↓RG, RP, RB, BEq.rfl, Int.reduceEq, Int.reduceLT, Int.reduceLE, Nat.reduceEqDiff]
      refine G.cond (fun h => ?_) (fun h => ?_)
      · have : ¬ xs = ys := fun e => by subst e; simp at h
        simpa [this] using hK
      · have hx : xs[k] = ys[k] := by simpa using h
        rw [wsucc (by omega)]
        exact hJ (k + 1) ⟨by omega, by rw [List.take_add_one, List.take_add_one, hp, List.getElem?_eq_getElem hk2, List.getElem?_eq_getElem hk3, hx]⟩ (by omega)
    · have hk2 : k = xs.length := by simp at h; omega
      have : xs = ys := by rw [hk2, List.take_of_length_le (by omega), List.take_of_length_le (by omega)] at hp; exact hp
      simpa [this] using hK

theorem s_slices_Clone_api_Cell_api_Cell {w0 : Base} {L : List Asn} {K : KV} {v : Value} {sz : Nat} {xs : List TCell} [r : Rd w0 L v tCellE sz xs] (hl : xs.length ≤ 1000000) (hK : ∀ u, Cells u [u] → G w0 (sl tCellE u xs :: L) (K u)) : G w0 L (CP Tryz.prog Fn.slices_Clone_api_Cell_api_Cell [v] K) := by
  have z1 := r.sz
  subst z1
  refine C_slices_Clone_api_Cell_api_Cell ?_
  unfold S_slices_Clone_api_Cell_api_Cell
  refine G.isNil fun t ht => ?_
  refine G.cond (fun h => ?_) (fun h => ?_)
  · have := ht h
    subst this
    exact G.nilsl tCellE (hK _ cells_slice)
  · refine G.build tCellE [] rfl (by simp) rfl fun y _ => ?_
    refine G.append (by simp; omega) (by simp [maxLen]; omega) fun u hu => ?_
    exact hK u hu

theorem s_book_Same_api_Pair {w0 : Base} {L : List Asn} {K : KV} {u v : Value} {sz sz' : Nat} {xs ys : List TPair} [r1 : Rd w0 L u tPairE sz xs] [r2 : Rd w0 L v tPairE sz' ys] (hl : xs.length ≤ 1000000) (hK : G w0 L (K (.bool (decide (xs = ys))))) : G w0 L (CP Tryz.prog Fn.book_Same_api_Pair [u, v] K) := by
  have z1 := r1.sz
  have z2 := r2.sz
  subst z1
  subst z2
  refine C_book_Same_api_Pair ?_
  unfold S_book_Same_api_Pair
  try simp (maxSteps := 2000000) only [↓RG, RP, RB, BEq.rfl, Int.reduceEq, Int.reduceLT, Int.reduceLE, Nat.reduceEqDiff]
  refine G.cond (fun h => ?_) (fun h => ?_)
  · have : ¬ xs = ys := fun e => by subst e; simp at h
    simpa [this] using hK
  · have hlen : xs.length = ys.length := by simp at h; omega
    refine G.loop1 (fun k : Nat => i64 k) (fun _ => L) (fun k => k ≤ xs.length ∧ xs.take k = ys.take k) (fun k => xs.length - k) 0 rfl rfl ⟨by omega, by simp⟩ ?_
    rintro k ⟨hk, hp⟩ J hJ
    try simp (maxSteps := 2000000) only [↓RG, RP, RB, BEq.rfl, Int.reduceEq, Int.reduceLT, Int.reduceLE, Nat.reduceEqDiff]
    refine G.cond (fun h => ?_) (fun h => ?_)
    · have hk2 : k < xs.length := by simp at h; omega
      have hk3 : k < ys.length := by omega
      have e := elem_of hk2
      have e' := elem_of hk3
      refine G.drew ?_
      simp only [↓RG, RP, RB, BEq.rfl, Int.reduceEq, Int.reduceLT, Int.reduceLE, Nat.reduceEqDiff, TPair.eqb]
      refine G.cond (fun h => ?_) (fun h => ?_)
      · have : ¬ xs = ys := fun e => by subst e; simp at h
        simpa [this] using hK
      · have hx : xs[k] = ys[k] := by simpa using h
        rw [wsucc (by omega)]
        exact hJ (k + 1) ⟨by omega, by rw [List.take_add_one, List.take_add_one, hp, List.getElem?_eq_getElem hk2, List.getElem?_eq_getElem hk3, hx]⟩ (by omega)
    · have hk2 : k = xs.length := by simp at h; omega
      have : xs = ys := by rw [hk2, List.take_of_length_le (by omega), List.take_of_length_le (by omega)] at hp; exact hp
      simpa [this] using hK


def within (n lo hi : Int) : Int := lo + n % (hi - lo + 1)
theorem within_le {n lo hi : Int} (h : lo ≤ hi) : lo ≤ within n lo hi ∧ within n lo hi ≤ hi := by
  unfold within
  have h1 := Int.emod_nonneg n (show hi - lo + 1 ≠ 0 by omega)
  have h2 := Int.emod_lt_of_pos n (show 0 < hi - lo + 1 by omega)
  omega

theorem s_book_Within {w0 : Base} {L : List Asn} {K : KV} {n lo hi : Int} (h1 : -4611686018427387904 ≤ lo) (h2 : lo ≤ hi) (h3 : hi ≤ 4611686018427387904) (hd : hi - lo ≤ 4611686018427387904) (hK : G w0 L (K (i64 (within n lo hi)))) : G w0 L (CP Tryz.prog Fn.book_Within [i64 n, i64 lo, i64 hi] K) := by
  refine C_book_Within ?_
  unfold S_book_Within
  have e1 : IntKind.wrap .i64 (IntKind.wrap .i64 (hi - lo) + 1) = hi - lo + 1 := by rw [wi64 (n := hi - lo) (by omega) (by omega), wi64 (by omega) (by omega)]
  have ne : NeZ (hi - lo + 1) := ⟨by omega⟩
  have hm : hi - lo + 1 > 0 := by omega
  have t1 := Int.tmod_lt_of_pos n hm
  have t2 := Int.lt_tmod_of_pos n hm
  have t3 : n % (hi - lo + 1) = if n.tmod (hi - lo + 1) < 0 then n.tmod (hi - lo + 1) + (hi - lo + 1) else n.tmod (hi - lo + 1) := by
    rw [Int.emod_eq_tmod]
    by_cases h0 : 0 ≤ n
    · have := Int.tmod_nonneg (hi - lo + 1) h0
      simp [h0]; omega
    · have h00 := Int.tmod_nonneg (hi - lo + 1) (show 0 ≤ -n by omega)
      rw [Int.neg_tmod] at h00
      have : n.tmod (hi - lo + 1) ≤ 0 := by omega
      by_cases hd : hi - lo + 1 ∣ n
      · have := Int.tmod_eq_zero_of_dvd hd
        simp [hd, this]
      · have hne : n.tmod (hi - lo + 1) ≠ 0 := fun h => hd (Int.dvd_of_tmod_eq_zero h)
        simp [h0, hd]; omega
  unfold within at hK
  try simp (maxSteps := 2000000) only [↓RG, RP, RB, BEq.rfl, Int.reduceEq, Int.reduceLT, Int.reduceLE, Nat.reduceEqDiff]
  simp only [e1]
  try simp (maxSteps := 2000000) only [↓RG, RP, RB, BEq.rfl, Int.reduceEq, Int.reduceLT, Int.reduceLE, Nat.reduceEqDiff]
  refine G.join1 (fun x : Int => i64 x) (fun _ => L) (fun x => x = n % (hi - lo + 1)) (fun x hx => ?_) (fun J hJ => ?_)
  · subst hx
    have h4 := Int.emod_nonneg n (show hi - lo + 1 ≠ 0 by omega)
    have h5 := Int.emod_lt_of_pos n hm
    try simp (maxSteps := 2000000) only [↓RG, RP, RB, BEq.rfl, Int.reduceEq, Int.reduceLT, Int.reduceLE, Nat.reduceEqDiff]
    rw [wi64 (by omega) (by omega)]
    exact hK
  · refine G.cond (fun h => ?_) (fun h => ?_)
    · have h : n.tmod (hi - lo + 1) < 0 := by simpa using h
      try simp (maxSteps := 2000000) only [↓RG, RP, RB, BEq.rfl, Int.reduceEq, Int.reduceLT, Int.reduceLE, Nat.reduceEqDiff]
      rw [wi64 (n := n.tmod (hi - lo + 1) + hi) (by omega) (by omega), wi64 (n := n.tmod (hi - lo + 1) + hi - lo) (by omega) (by omega), wi64 (by omega) (by omega)]
      exact hJ _ (by rw [t3, if_pos h]; omega)
    · have h : ¬ n.tmod (hi - lo + 1) < 0 := by simpa using h
      exact hJ _ (by rw [t3, if_neg h])

theorem s_ref1_Held {w0 : Base} {L : List Asn} {K : KV} {n lo hi : Int} (hK : G w0 L (K (i64 (held n lo hi)))) : G w0 L (CP Tryz.prog Fn.ref1_Held [i64 n, i64 lo, i64 hi] K) := by
  refine C_ref1_Held ?_
  unfold S_ref1_Held
  unfold held at hK
  try simp (maxSteps := 2000000) only [↓RG, RP, RB, BEq.rfl, Int.reduceEq, Int.reduceLT, Int.reduceLE, Nat.reduceEqDiff]
  refine G.cond (fun h => ?_) (fun h => ?_)
  · have h : n < lo := by simpa using h
    simpa [h] using hK
  · have h : ¬ n < lo := by simpa using h
    rw [if_neg h] at hK
    refine G.cond (fun h => ?_) (fun h => ?_)
    · have h : hi < n := by simpa using h
      simpa [h] using hK
    · have h : ¬ hi < n := by simpa using h
      simpa [h] using hK

end Go.Proofs.YtokbiojkpldfeaaGreat.S
