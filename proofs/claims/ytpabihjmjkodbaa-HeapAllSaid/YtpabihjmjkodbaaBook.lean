/-
  CONTRACTS OF WHAT ALL STATEMENTS CALL: quietusbook.Same, slices.Clone, quietusref1.Held.
-/
import Derived.Test.YtpabihjmjkodbaaSLink
import Derived.Test.YtpabihjmjkodbaaData
namespace Go.Proofs.Ytpabihjmjkodbaa.S
open Go Go.Proofs
set_option linter.unusedVariables false
set_option linter.unusedSimpArgs false

theorem s_book_Same_api_Rest {w0 : World} {L : List Asn} {K : KV} {u v : Value} {sz sz' : Nat} {xs ys : List TRest} [r1 : Rd w0 L u tRestE sz xs] [r2 : Rd w0 L v tRestE sz' ys] (hl : xs.length ≤ 1000000) (hK : G w0 L (K (.bool (decide (xs = ys))))) : G w0 L (CP Try.prog Fn.book_Same_api_Rest [u, v] K) := by
  have z1 := r1.sz
  have z2 := r2.sz
  subst z1
  subst z2
  refine C_book_Same_api_Rest ?_
  unfold S_book_Same_api_Rest
  try simp only [↓RG, RP, true_and, and_true, beq_true, beq_false, Bool.true_beq, Bool.false_beq, BEq.rfl, Int.reduceEq, Int.reduceLT, Int.reduceLE, Nat.reduceEqDiff, decide_true, decide_false, Bool.not_true, Bool.not_false, Bool.and_true, Bool.true_and, Bool.and_false, Bool.false_and, Bool.or_true, Bool.true_or, Bool.or_false, Bool.false_or, Bool.not_not]
  refine G.cond (fun h => ?_) (fun h => ?_)
  · have : ¬ xs = ys := fun e => by subst e; simp at h
    simpa [this] using hK
  · have hlen : xs.length = ys.length := by simp at h; omega
    refine G.loop1 (fun k : Nat => i64 k) (fun _ => L) (fun k => k ≤ xs.length ∧ xs.take k = ys.take k) (fun k => xs.length - k) 0 rfl rfl ⟨by omega, by simp⟩ ?_
    rintro k ⟨hk, hp⟩ J hJ
    try simp only [↓RG, RP, true_and, and_true, beq_true, beq_false, Bool.true_beq, Bool.false_beq, BEq.rfl, Int.reduceEq, Int.reduceLT, Int.reduceLE, Nat.reduceEqDiff, decide_true, decide_false, Bool.not_true, Bool.not_false, Bool.and_true, Bool.true_and, Bool.and_false, Bool.false_and, Bool.or_true, Bool.true_or, Bool.or_false, Bool.false_or, Bool.not_not]
    refine G.cond (fun h => ?_) (fun h => ?_)
    · have hk2 : k < xs.length := by simp at h; omega
      have hk3 : k < ys.length := by omega
      have e := elem_of hk2
      have e' := elem_of hk3
      refine G.drew ?_
      simp only [↓RG, RP, true_and, and_true, beq_true, beq_false, Bool.true_beq, Bool.false_beq, BEq.rfl, Int.reduceEq, Int.reduceLT, Int.reduceLE, Nat.reduceEqDiff, decide_true, decide_false, Bool.not_true, Bool.not_false, Bool.and_true, Bool.true_and, Bool.and_false, Bool.false_and, Bool.or_true, Bool.true_or, Bool.or_false, Bool.false_or, Bool.not_not, TRest.eqb]
      refine G.cond (fun h => ?_) (fun h => ?_)
      · have : ¬ xs = ys := fun e => by subst e; simp at h
        simpa [this] using hK
      · have hx : xs[k] = ys[k] := by simpa using h
        rw [wsucc (by omega)]
        exact hJ (k + 1) ⟨by omega, by rw [List.take_add_one, List.take_add_one, hp, List.getElem?_eq_getElem hk2, List.getElem?_eq_getElem hk3, hx]⟩ (by omega)
    · have hk2 : k = xs.length := by simp at h; omega
      have : xs = ys := by rw [hk2, List.take_of_length_le (by omega), List.take_of_length_le (by omega)] at hp; exact hp
      simpa [this] using hK

theorem s_book_Same_api_Seen {w0 : World} {L : List Asn} {K : KV} {u v : Value} {sz sz' : Nat} {xs ys : List TSeen} [r1 : Rd w0 L u tSeenE sz xs] [r2 : Rd w0 L v tSeenE sz' ys] (hl : xs.length ≤ 1000000) (hK : G w0 L (K (.bool (decide (xs = ys))))) : G w0 L (CP Try.prog Fn.book_Same_api_Seen [u, v] K) := by
  have z1 := r1.sz
  have z2 := r2.sz
  subst z1
  subst z2
  refine C_book_Same_api_Seen ?_
  unfold S_book_Same_api_Seen
  try simp only [↓RG, RP, true_and, and_true, beq_true, beq_false, Bool.true_beq, Bool.false_beq, BEq.rfl, Int.reduceEq, Int.reduceLT, Int.reduceLE, Nat.reduceEqDiff, decide_true, decide_false, Bool.not_true, Bool.not_false, Bool.and_true, Bool.true_and, Bool.and_false, Bool.false_and, Bool.or_true, Bool.true_or, Bool.or_false, Bool.false_or, Bool.not_not]
  refine G.cond (fun h => ?_) (fun h => ?_)
  · have : ¬ xs = ys := fun e => by subst e; simp at h
    simpa [this] using hK
  · have hlen : xs.length = ys.length := by simp at h; omega
    refine G.loop1 (fun k : Nat => i64 k) (fun _ => L) (fun k => k ≤ xs.length ∧ xs.take k = ys.take k) (fun k => xs.length - k) 0 rfl rfl ⟨by omega, by simp⟩ ?_
    rintro k ⟨hk, hp⟩ J hJ
    try simp only [↓RG, RP, true_and, and_true, beq_true, beq_false, Bool.true_beq, Bool.false_beq, BEq.rfl, Int.reduceEq, Int.reduceLT, Int.reduceLE, Nat.reduceEqDiff, decide_true, decide_false, Bool.not_true, Bool.not_false, Bool.and_true, Bool.true_and, Bool.and_false, Bool.false_and, Bool.or_true, Bool.true_or, Bool.or_false, Bool.false_or, Bool.not_not]
    refine G.cond (fun h => ?_) (fun h => ?_)
    · have hk2 : k < xs.length := by simp at h; omega
      have hk3 : k < ys.length := by omega
      have e := elem_of hk2
      have e' := elem_of hk3
      refine G.drew ?_
      simp only [↓RG, RP, true_and, and_true, beq_true, beq_false, Bool.true_beq, Bool.false_beq, BEq.rfl, Int.reduceEq, Int.reduceLT, Int.reduceLE, Nat.reduceEqDiff, decide_true, decide_false, Bool.not_true, Bool.not_false, Bool.and_true, Bool.true_and, Bool.and_false, Bool.false_and, Bool.or_true, Bool.true_or, Bool.or_false, Bool.false_or, Bool.not_not, TSeen.eqb]
      refine G.cond (fun h => ?_) (fun h => ?_)
      · have : ¬ xs = ys := fun e => by subst e; simp at h
        simpa [this] using hK
      · have hx : xs[k] = ys[k] := by simpa using h
        rw [wsucc (by omega)]
        exact hJ (k + 1) ⟨by omega, by rw [List.take_add_one, List.take_add_one, hp, List.getElem?_eq_getElem hk2, List.getElem?_eq_getElem hk3, hx]⟩ (by omega)
    · have hk2 : k = xs.length := by simp at h; omega
      have : xs = ys := by rw [hk2, List.take_of_length_le (by omega), List.take_of_length_le (by omega)] at hp; exact hp
      simpa [this] using hK

theorem s_book_Same_uint64 {w0 : World} {L : List Asn} {K : KV} {u v : Value} {sz sz' : Nat} {xs ys : List Int} [r1 : Rd w0 L u wordE sz xs] [r2 : Rd w0 L v wordE sz' ys] (hl : xs.length ≤ 1000000) (hK : G w0 L (K (.bool (decide (xs = ys))))) : G w0 L (CP Try.prog Fn.book_Same_uint64 [u, v] K) := by
  have z1 := r1.sz
  have z2 := r2.sz
  subst z1
  subst z2
  refine C_book_Same_uint64 ?_
  unfold S_book_Same_uint64
  try simp only [↓RG, RP, true_and, and_true, beq_true, beq_false, Bool.true_beq, Bool.false_beq, BEq.rfl, Int.reduceEq, Int.reduceLT, Int.reduceLE, Nat.reduceEqDiff, decide_true, decide_false, Bool.not_true, Bool.not_false, Bool.and_true, Bool.true_and, Bool.and_false, Bool.false_and, Bool.or_true, Bool.true_or, Bool.or_false, Bool.false_or, Bool.not_not]
  refine G.cond (fun h => ?_) (fun h => ?_)
  · have : ¬ xs = ys := fun e => by subst e; simp at h
    simpa [this] using hK
  · have hlen : xs.length = ys.length := by simp at h; omega
    refine G.loop1 (fun k : Nat => i64 k) (fun _ => L) (fun k => k ≤ xs.length ∧ xs.take k = ys.take k) (fun k => xs.length - k) 0 rfl rfl ⟨by omega, by simp⟩ ?_
    rintro k ⟨hk, hp⟩ J hJ
    try simp only [↓RG, RP, true_and, and_true, beq_true, beq_false, Bool.true_beq, Bool.false_beq, BEq.rfl, Int.reduceEq, Int.reduceLT, Int.reduceLE, Nat.reduceEqDiff, decide_true, decide_false, Bool.not_true, Bool.not_false, Bool.and_true, Bool.true_and, Bool.and_false, Bool.false_and, Bool.or_true, Bool.true_or, Bool.or_false, Bool.false_or, Bool.not_not]
    refine G.cond (fun h => ?_) (fun h => ?_)
    · have hk2 : k < xs.length := by simp at h; omega
      have hk3 : k < ys.length := by omega
      have e := elem_of hk2
      have e' := elem_of hk3
      refine G.drew ?_
      simp only [↓RG, RP, true_and, and_true, beq_true, beq_false, Bool.true_beq, Bool.false_beq, BEq.rfl, Int.reduceEq, Int.reduceLT, Int.reduceLE, Nat.reduceEqDiff, decide_true, decide_false, Bool.not_true, Bool.not_false, Bool.and_true, Bool.true_and, Bool.and_false, Bool.false_and, Bool.or_true, Bool.true_or, Bool.or_false, Bool.false_or, Bool.not_not]
      refine G.cond (fun h => ?_) (fun h => ?_)
      · have : ¬ xs = ys := fun e => by subst e; simp at h
        simpa [this] using hK
      · have hx : xs[k] = ys[k] := by simpa using h
        rw [wsucc (by omega)]
        exact hJ (k + 1) ⟨by omega, by rw [List.take_add_one, List.take_add_one, hp, List.getElem?_eq_getElem hk2, List.getElem?_eq_getElem hk3, hx]⟩ (by omega)
    · have hk2 : k = xs.length := by simp at h; omega
      have : xs = ys := by rw [hk2, List.take_of_length_le (by omega), List.take_of_length_le (by omega)] at hp; exact hp
      simpa [this] using hK

theorem s_slices_Clone_uint64_uint64 {w0 : World} {L : List Asn} {K : KV} {v : Value} {sz : Nat} {xs : List Int} [r : Rd w0 L v wordE sz xs] (hl : xs.length ≤ 1000000) (hK : ∀ u, Cells u [u] → G w0 (sl wordE u xs :: L) (K u)) : G w0 L (CP Try.prog Fn.slices_Clone_uint64_uint64 [v] K) := by
  have z1 := r.sz
  subst z1
  refine C_slices_Clone_uint64_uint64 ?_
  unfold S_slices_Clone_uint64_uint64
  refine G.isNil fun t ht => ?_
  refine G.cond (fun h => ?_) (fun h => ?_)
  · have := ht h
    subst this
    exact G.nilsl wordE (hK _ cells_slice)
  · refine G.build wordE [] rfl (by simp) rfl fun y _ => ?_
    refine G.append (by simp; omega) (by simp [maxLen]; omega) fun u hu => ?_
    exact hK u hu

theorem s_slices_Clone_api_Rest_api_Rest {w0 : World} {L : List Asn} {K : KV} {v : Value} {sz : Nat} {xs : List TRest} [r : Rd w0 L v tRestE sz xs] (hl : xs.length ≤ 1000000) (hK : ∀ u, Cells u [u] → G w0 (sl tRestE u xs :: L) (K u)) : G w0 L (CP Try.prog Fn.slices_Clone_api_Rest_api_Rest [v] K) := by
  have z1 := r.sz
  subst z1
  refine C_slices_Clone_api_Rest_api_Rest ?_
  unfold S_slices_Clone_api_Rest_api_Rest
  refine G.isNil fun t ht => ?_
  refine G.cond (fun h => ?_) (fun h => ?_)
  · have := ht h
    subst this
    exact G.nilsl tRestE (hK _ cells_slice)
  · refine G.build tRestE [] rfl (by simp) rfl fun y _ => ?_
    refine G.append (by simp; omega) (by simp [maxLen]; omega) fun u hu => ?_
    exact hK u hu

theorem s_slices_Clone_api_Seen_api_Seen {w0 : World} {L : List Asn} {K : KV} {v : Value} {sz : Nat} {xs : List TSeen} [r : Rd w0 L v tSeenE sz xs] (hl : xs.length ≤ 1000000) (hK : ∀ u, Cells u [u] → G w0 (sl tSeenE u xs :: L) (K u)) : G w0 L (CP Try.prog Fn.slices_Clone_api_Seen_api_Seen [v] K) := by
  have z1 := r.sz
  subst z1
  refine C_slices_Clone_api_Seen_api_Seen ?_
  unfold S_slices_Clone_api_Seen_api_Seen
  refine G.isNil fun t ht => ?_
  refine G.cond (fun h => ?_) (fun h => ?_)
  · have := ht h
    subst this
    exact G.nilsl tSeenE (hK _ cells_slice)
  · refine G.build tSeenE [] rfl (by simp) rfl fun y _ => ?_
    refine G.append (by simp; omega) (by simp [maxLen]; omega) fun u hu => ?_
    exact hK u hu


theorem s_ref1_Held {w0 : World} {L : List Asn} {K : KV} {n lo hi : Int} (hK : G w0 L (K (i64 (held n lo hi)))) : G w0 L (CP Try.prog Fn.ref1_Held [i64 n, i64 lo, i64 hi] K) := by
  refine C_ref1_Held ?_
  unfold S_ref1_Held
  unfold held at hK
  try simp only [↓RG, RP, true_and, and_true, beq_true, beq_false, Bool.true_beq, Bool.false_beq, BEq.rfl, Int.reduceEq, Int.reduceLT, Int.reduceLE, Nat.reduceEqDiff, decide_true, decide_false, Bool.not_true, Bool.not_false, Bool.and_true, Bool.true_and, Bool.and_false, Bool.false_and, Bool.or_true, Bool.true_or, Bool.or_false, Bool.false_or, Bool.not_not]
  refine G.cond (fun h => ?_) (fun h => ?_)
  · have h : n < lo := by simpa using h
    simpa [h] using hK
  · have h : ¬ n < lo := by simpa using h
    rw [if_neg h] at hK
    refine G.cond (fun h => ?_) (fun h => ?_)
    · have h : hi < n := by simpa using h
      simpa [h] using hK
    · have h : ¬ hi < n := by simpa using h
      simpa [h] using hK

end Go.Proofs.Ytpabihjmjkodbaa.S
