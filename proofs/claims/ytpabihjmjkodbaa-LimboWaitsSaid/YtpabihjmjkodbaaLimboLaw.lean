/-
  CHAPTER 12: the statements' own functions.
-/
import Derived.Test.YtpabihjmjkodbaaLimbo
namespace Go.Proofs.Ytpabihjmjkodbaa.S
open Go Go.Proofs
set_option linter.unusedVariables false
set_option linter.unusedSimpArgs false

section
variable {w0 : World} {L M : List Asn} {K : KV} {F : World → Prop} {C : Asn → List Asn} {b : Nat} {xs : List TRest}

theorem s_law12_LimboRuns (hK : G w0 L (K (.bool true))) : G w0 L (CP Try.prog Fn.law12_LimboRuns [] K) := by
  refine C_law12_LimboRuns ?_
  unfold S_law12_LimboRuns
  refine s_limbo_New fun b => ?_
  try simp only [↓RG, RP, true_and, and_true, beq_true, beq_false, Bool.true_beq, Bool.false_beq, BEq.rfl, Int.reduceEq, Int.reduceLT, Int.reduceLE, Nat.reduceEqDiff, decide_true, decide_false, Bool.not_true, Bool.not_false, Bool.and_true, Bool.true_and, Bool.and_false, Bool.false_and, Bool.or_true, Bool.true_or, Bool.or_false, Bool.false_or, Bool.not_not]
  refine G.build intE [15] rfl (by decide) rfl fun u hu => ?_
  refine s_limbo_Limbo_Add (bs := [15]) (by simp) ?_
  refine G.build intE [20, 25] rfl (by decide) rfl fun u2 hu2 => ?_
  refine s_limbo_Limbo_Add (bs := [20, 25]) (by simp) ?_
  refine G.build wordE [8, 0] rfl (by decide) rfl fun u3 hu3 => ?_
  refine s_limbo_Limbo_Ripe (ss := [8, 0]) (by simp) (by simp) fun u4 hu4 => ?_
  have e1 : (([] ++ [15].map fun n => (⟨n, 7⟩ : TRest)) ++ [20, 25].map fun n => (⟨n, 9⟩ : TRest)).filter (fun x : TRest => passed [8, 0] x.stamp) = [⟨15, 7⟩] := by decide
  have e2 : (([] ++ [15].map fun n => (⟨n, 7⟩ : TRest)) ++ [20, 25].map fun n => (⟨n, 9⟩ : TRest)).filter (fun x : TRest => !passed [8, 0] x.stamp) = [⟨20, 9⟩, ⟨25, 9⟩] := by decide
  rw [e1, e2]
  try simp [↓RG, RP]
  refine s_limbo_Limbo_Len ?_
  try simp [↓RG, RP]
  refine s_limbo_Limbo_All (by simp) fun u5 hu5 => ?_
  try simp [↓RG, RP]
  exact hK.sub

theorem s_law12_LimboPlays {l : Value} {qs : List AskLimbo} [a : Arg w0 l askLimboE qs] (hq0 : ∀ q ∈ qs, AskLimbo.Q w0 q) (hK : G w0 L (K (.bool true))) : G w0 L (CP Try.prog Fn.law12_LimboPlays [l] K) := by
  refine C_law12_LimboPlays ?_
  unfold S_law12_LimboPlays
  refine s_law12_LimboRuns ?_
  try simp only [↓RG, RP, true_and, and_true, beq_true, beq_false, Bool.true_beq, Bool.false_beq, BEq.rfl, Int.reduceEq, Int.reduceLT, Int.reduceLE, Nat.reduceEqDiff, decide_true, decide_false, Bool.not_true, Bool.not_false, Bool.and_true, Bool.true_and, Bool.and_false, Bool.false_and, Bool.or_true, Bool.true_or, Bool.or_false, Bool.false_or, Bool.not_not]
  refine s_limbo_New fun b => ?_
  try simp only [↓RG, RP, true_and, and_true, beq_true, beq_false, Bool.true_beq, Bool.false_beq, BEq.rfl, Int.reduceEq, Int.reduceLT, Int.reduceLE, Nat.reduceEqDiff, decide_true, decide_false, Bool.not_true, Bool.not_false, Bool.and_true, Bool.true_and, Bool.and_false, Bool.false_and, Bool.or_true, Bool.true_or, Bool.or_false, Bool.false_or, Bool.not_not]
  refine G.nilsl tRestE ?_
  refine G.loop2 (σ := Value × List TRest × Nat) (fun s => s.1) (fun s => i64 s.2.2) (fun s => sl tRestE s.1 s.2.1 :: ob (BoxR tRestE) b s.2.1 :: L) (fun s => s.2.2 ≤ 40 ∧ s.2.1.length ≤ 30 * s.2.2 ∧ Cells s.1 [s.1]) (fun s => 40 - s.2.2) (_, [], 0) rfl rfl rfl ⟨by simp, by simp, cells_slice⟩ ?_
  rintro ⟨v, xs, k⟩ ⟨hk, hx, hv⟩ J hJ
  simp only at hk hx hv hJ ⊢
  try simp only [fuse_and, fuse_or, fuse_step, fuse_pair, fuse_in, andP_true]
  try simp only [↓RG, RP, true_and, and_true, beq_true, beq_false, Bool.true_beq, Bool.false_beq, BEq.rfl, Int.reduceEq, Int.reduceLT, Int.reduceLE, Nat.reduceEqDiff, decide_true, decide_false, Bool.not_true, Bool.not_false, Bool.and_true, Bool.true_and, Bool.and_false, Bool.false_and, Bool.or_true, Bool.true_or, Bool.or_false, Bool.false_or, Bool.not_not]
  refine G.cond (fun h => ?_) (fun h => hK.sub)
  have hk2 : k < qs.length ∧ k < 40 := by simp at h; omega
  obtain ⟨q, e⟩ : ∃ q, Elem qs k q := ⟨_, elem_of hk2.1⟩
  obtain ⟨⟨bs, hb⟩, ⟨ss, hs⟩⟩ := hq0 q (List.mem_of_getElem? e.eq)
  try simp only [↓RG, RP, true_and, and_true, beq_true, beq_false, Bool.true_beq, Bool.false_beq, BEq.rfl, Int.reduceEq, Int.reduceLT, Int.reduceLE, Nat.reduceEqDiff, decide_true, decide_false, Bool.not_true, Bool.not_false, Bool.and_true, Bool.true_and, Bool.and_false, Bool.false_and, Bool.or_true, Bool.true_or, Bool.or_false, Bool.false_or, Bool.not_not]
  refine G.new fun p => ?_
  try simp only [↓RG, RP, true_and, and_true, beq_true, beq_false, Bool.true_beq, Bool.false_beq, BEq.rfl, Int.reduceEq, Int.reduceLT, Int.reduceLE, Nat.reduceEqDiff, decide_true, decide_false, Bool.not_true, Bool.not_false, Bool.and_true, Bool.true_and, Bool.and_false, Bool.false_and, Bool.or_true, Bool.true_or, Bool.or_false, Bool.false_or, Bool.not_not]
  refine G.any (decide (30 < (ss.length : Int))) (fun _ K hK => by try simp only [↓RG, RP, true_and, and_true, beq_true, beq_false, Bool.true_beq, Bool.false_beq, BEq.rfl, Int.reduceEq, Int.reduceLT, Int.reduceLE, Nat.reduceEqDiff, decide_true, decide_false, Bool.not_true, Bool.not_false, Bool.and_true, Bool.true_and, Bool.and_false, Bool.false_and, Bool.or_true, Bool.true_or, Bool.or_false, Bool.false_or, Bool.not_not]; exact hK) ?_
  refine G.cond (fun h => hK.sub) (fun h => ?_)
  have hl : bs.length ≤ 30 ∧ ss.length ≤ 30 := by simp at h; omega
  try simp only [↓RG, RP, true_and, and_true, beq_true, beq_false, Bool.true_beq, Bool.false_beq, BEq.rfl, Int.reduceEq, Int.reduceLT, Int.reduceLE, Nat.reduceEqDiff, decide_true, decide_false, Bool.not_true, Bool.not_false, Bool.and_true, Bool.true_and, Bool.and_false, Bool.false_and, Bool.or_true, Bool.true_or, Bool.or_false, Bool.false_or, Bool.not_not]
  refine G.join1 (σ := Value × List TRest) (fun s => s.1) (fun s => sl tRestE s.1 s.2 :: ob (BoxR tRestE) b s.2 :: L) (fun s => Cells s.1 [s.1] ∧ s.2.length ≤ 30 * k + 30) ?_ (fun J2 hJ2 => ?_)
  · rintro ⟨y, ys⟩ ⟨hy, hyl⟩
    simp only at hy hyl ⊢
    refine s_limbo_Limbo_All (xs := ys) (by omega) fun u hu => ?_
    refine s_book_Same_api_Rest (xs := ys) (ys := ys) (by omega) ?_
    try simp only [↓RG, RP, true_and, and_true, beq_true, beq_false, Bool.true_beq, Bool.false_beq, BEq.rfl, Int.reduceEq, Int.reduceLT, Int.reduceLE, Nat.reduceEqDiff, decide_true, decide_false, Bool.not_true, Bool.not_false, Bool.and_true, Bool.true_and, Bool.and_false, Bool.false_and, Bool.or_true, Bool.true_or, Bool.or_false, Bool.false_or, Bool.not_not]
    refine s_limbo_Limbo_Len (xs := ys) ?_
    try simp only [↓RG, RP, true_and, and_true, beq_true, beq_false, Bool.true_beq, Bool.false_beq, BEq.rfl, Int.reduceEq, Int.reduceLT, Int.reduceLE, Nat.reduceEqDiff, decide_true, decide_false, Bool.not_true, Bool.not_false, Bool.and_true, Bool.true_and, Bool.and_false, Bool.false_and, Bool.or_true, Bool.true_or, Bool.or_false, Bool.false_or, Bool.not_not]
    rw [wsucc (by omega)]
    exact (hJ (y, ys, k + 1) ⟨hk2.2, by simp; omega, hy⟩ (by simp; omega)).sub
  · refine G.cond (fun h => ?_) (fun h => ?_)
    · try simp only [↓RG, RP, true_and, and_true, beq_true, beq_false, Bool.true_beq, Bool.false_beq, BEq.rfl, Int.reduceEq, Int.reduceLT, Int.reduceLE, Nat.reduceEqDiff, decide_true, decide_false, Bool.not_true, Bool.not_false, Bool.and_true, Bool.true_and, Bool.and_false, Bool.false_and, Bool.or_true, Bool.true_or, Bool.or_false, Bool.false_or, Bool.not_not]
      refine s_ref7_Ripe (xs := xs) (ss := ss) (by omega) (by omega) fun u u2 hu hu2 => ?_
      try simp only [↓RG, RP, true_and, and_true, beq_true, beq_false, Bool.true_beq, Bool.false_beq, BEq.rfl, Int.reduceEq, Int.reduceLT, Int.reduceLE, Nat.reduceEqDiff, decide_true, decide_false, Bool.not_true, Bool.not_false, Bool.and_true, Bool.true_and, Bool.and_false, Bool.false_and, Bool.or_true, Bool.true_or, Bool.or_false, Bool.false_or, Bool.not_not]
      refine s_limbo_Limbo_Ripe (xs := xs) (ss := ss) (by omega) (by omega) fun u3 hu3 => ?_
      have hf := List.length_filter_le (fun x : TRest => passed ss x.stamp) xs
      have hf2 := List.length_filter_le (fun x : TRest => !passed ss x.stamp) xs
      refine s_book_Same_api_Rest (by omega) ?_
      try simp only [↓RG, RP, true_and, and_true, beq_true, beq_false, Bool.true_beq, Bool.false_beq, BEq.rfl, Int.reduceEq, Int.reduceLT, Int.reduceLE, Nat.reduceEqDiff, decide_true, decide_false, Bool.not_true, Bool.not_false, Bool.and_true, Bool.true_and, Bool.and_false, Bool.false_and, Bool.or_true, Bool.true_or, Bool.or_false, Bool.false_or, Bool.not_not]
      exact (hJ2 (u2, xs.filter fun x => !passed ss x.stamp) ⟨hu2, by simp only; omega⟩).sub
    · try simp only [↓RG, RP, true_and, and_true, beq_true, beq_false, Bool.true_beq, Bool.false_beq, BEq.rfl, Int.reduceEq, Int.reduceLT, Int.reduceLE, Nat.reduceEqDiff, decide_true, decide_false, Bool.not_true, Bool.not_false, Bool.and_true, Bool.true_and, Bool.and_false, Bool.false_and, Bool.or_true, Bool.true_or, Bool.or_false, Bool.false_or, Bool.not_not]
      refine s_limbo_Limbo_Add (xs := xs) (bs := bs) (by omega) ?_
      refine G.loop2 (σ := Value × Nat) (fun s => s.1) (fun s => i64 s.2) (fun s => own p [.bool q.ripe, u64 q.stamp, q.blocks.v, q.slots.v] :: sl tRestE s.1 (xs ++ (bs.take s.2).map fun n => (⟨n, q.stamp⟩ : TRest)) :: ob (BoxR tRestE) b (xs ++ bs.map fun n => (⟨n, q.stamp⟩ : TRest)) :: L)
        (fun s => s.2 ≤ bs.length ∧ Cells s.1 [s.1]) (fun s => bs.length - s.2) (v, 0) rfl rfl (by simp) ⟨by simp, hv⟩ ?_
      rintro ⟨y, j⟩ ⟨hj, hy⟩ J3 hJ3
      simp only at hj hy hJ3 ⊢
      try simp only [↓RG, RP, true_and, and_true, beq_true, beq_false, Bool.true_beq, Bool.false_beq, BEq.rfl, Int.reduceEq, Int.reduceLT, Int.reduceLE, Nat.reduceEqDiff, decide_true, decide_false, Bool.not_true, Bool.not_false, Bool.and_true, Bool.true_and, Bool.and_false, Bool.false_and, Bool.or_true, Bool.true_or, Bool.or_false, Bool.false_or, Bool.not_not]
      refine G.cond (fun h => ?_) (fun h => ?_)
      · have hj2 : j < bs.length := by simpa using h
        have e := elem_of hj2
        refine G.drew ?_
        try simp only [↓RG, RP, true_and, and_true, beq_true, beq_false, Bool.true_beq, Bool.false_beq, BEq.rfl, Int.reduceEq, Int.reduceLT, Int.reduceLE, Nat.reduceEqDiff, decide_true, decide_false, Bool.not_true, Bool.not_false, Bool.and_true, Bool.true_and, Bool.and_false, Bool.false_and, Bool.or_true, Bool.true_or, Bool.or_false, Bool.false_or, Bool.not_not]
        refine G.append1 rfl rfl (by decide) (by simp; omega) (by simp [maxLen]; omega) fun y2 hy2 => ?_
        try simp only [↓RG, RP, true_and, and_true, beq_true, beq_false, Bool.true_beq, Bool.false_beq, BEq.rfl, Int.reduceEq, Int.reduceLT, Int.reduceLE, Nat.reduceEqDiff, decide_true, decide_false, Bool.not_true, Bool.not_false, Bool.and_true, Bool.true_and, Bool.and_false, Bool.false_and, Bool.or_true, Bool.true_or, Bool.or_false, Bool.false_or, Bool.not_not]
        rw [wsucc (by omega)]
        have := hJ3 (y2, j + 1) ⟨hj2, hy2⟩ (by simp; omega)
        have hx : xs ++ (bs.take (j + 1)).map (fun n => (⟨n, q.stamp⟩ : TRest)) = xs ++ (bs.take j).map (fun n => (⟨n, q.stamp⟩ : TRest)) ++ [⟨bs[j], q.stamp⟩] := by
          rw [List.take_add_one, List.getElem?_eq_getElem hj2, List.map_append, ← List.append_assoc]; rfl
        rw [hx] at this
        exact this
      · have : bs.take j = bs := List.take_of_length_le (by simpa using h)
        rw [this]
        exact (hJ2 (y, xs ++ bs.map fun n => ⟨n, q.stamp⟩) ⟨hy, by simp; omega⟩).sub

/-! ### the third statement -/
def stampOf (a : Int) : Int := IntKind.wrap .u64 (a.tmod 16)
def slotOf (a : Int) : Int := IntKind.wrap .u64 (a.tmod 18)
def restsOf (st : List Int) (k : Nat) : List TRest := (List.range k).map fun i : Nat => ⟨(i : Int), stampOf (st.getD i 0)⟩

theorem restsOf_succ (st : List Int) (k : Nat) : restsOf st (k + 1) = restsOf st k ++ [⟨k, stampOf (st.getD k 0)⟩] := by
  unfold restsOf; rw [List.range_succ, List.map_append]; rfl

theorem filter_two {α : Type} (p : α → Bool) (xs : List α) : (xs.filter p).length + (xs.filter fun x => !p x).length = xs.length := by
  induction xs with
  | nil => rfl
  | cons x xs ih => cases hp : p x <;> simp [hp] <;> omega

theorem restsOf_rise (st : List Int) (k : Nat) (p : TRest → Bool) {i : Nat} {x y : TRest} (hx : ((restsOf st k).filter p)[i]? = some x) (hy : ((restsOf st k).filter p)[i + 1]? = some y) : x.place < y.place := by
  have h : ((restsOf st k).filter p).Pairwise (fun a b => a.place < b.place) := by
    refine List.Pairwise.filter p ?_
    unfold restsOf
    rw [List.pairwise_map]
    exact List.Pairwise.imp (fun h => by simpa using h) List.pairwise_lt_range
  rw [List.pairwise_iff_getElem] at h
  obtain ⟨h1, e1⟩ := List.getElem?_eq_some_iff.1 hx
  obtain ⟨h2, e2⟩ := List.getElem?_eq_some_iff.1 hy
  have := h i (i + 1) h1 h2 (by omega)
  rw [e1, e2] at this
  exact this

theorem restsOf_elem (st : List Int) (k : Nat) (p : TRest → Bool) {i : Nat} {x : TRest} (hx : ((restsOf st k).filter p)[i]? = some x) : p x = true ∧ ∃ j, j < k ∧ x = ⟨(j : Nat), stampOf (st.getD j 0)⟩ := by
  have := List.mem_filter.1 (List.mem_of_getElem? hx)
  refine ⟨this.2, ?_⟩
  obtain ⟨j, hj, e⟩ := List.mem_map.1 this.1
  exact ⟨j, List.mem_range.1 hj, e.symm⟩

theorem stampOf_le {a : Int} (h : 0 ≤ a ∧ a ≤ 255) : 0 ≤ stampOf a ∧ stampOf a ≤ 15 := by
  unfold stampOf
  rw [Int.tmod_eq_emod_of_nonneg h.1, wu64 (by omega) (by omega)]
  omega

theorem s_law12_LimboWaits {l1 l2 : Value} {st sl0 : List Int} {m : Int} [a1 : Arg w0 l1 byteE st] [a2 : Arg w0 l2 byteE sl0] (hr0 : ∀ x ∈ st, good [.i .u8] (byteE.enc x)) (hn2 : inK .u8 m) (hK : G w0 L (K (.bool true))) :
    G w0 L (CP Try.prog Fn.law12_LimboWaits [l1, l2, .int .u8 m] K) := by
  have hst := good_u8 hr0
  have hm := inK_u8 hn2
  refine C_law12_LimboWaits ?_
  unfold S_law12_LimboWaits
  refine s_law12_LimboRuns ?_
  try simp only [fuse_and, fuse_or, fuse_step, fuse_pair, fuse_in, andP_true]
  try simp only [↓RG, RP, true_and, and_true, beq_true, beq_false, Bool.true_beq, Bool.false_beq, BEq.rfl, Int.reduceEq, Int.reduceLT, Int.reduceLE, Nat.reduceEqDiff, decide_true, decide_false, Bool.not_true, Bool.not_false, Bool.and_true, Bool.true_and, Bool.and_false, Bool.false_and, Bool.or_true, Bool.true_or, Bool.or_false, Bool.false_or, Bool.not_not]
  refine G.any (decide (4 < (sl0.length : Int))) (fun _ K hK => by try simp only [↓RG, RP, true_and, and_true, beq_true, beq_false, Bool.true_beq, Bool.false_beq, BEq.rfl, Int.reduceEq, Int.reduceLT, Int.reduceLE, Nat.reduceEqDiff, decide_true, decide_false, Bool.not_true, Bool.not_false, Bool.and_true, Bool.true_and, Bool.and_false, Bool.false_and, Bool.or_true, Bool.true_or, Bool.or_false, Bool.false_or, Bool.not_not]; exact hK) ?_
  refine G.cond (fun h => hK.sub) (fun h => ?_)
  have hl : st.length ≤ 40 ∧ sl0.length ≤ 4 := by simp at h; omega
  refine s_limbo_New fun b => ?_
  try simp only [↓RG, RP, true_and, and_true, beq_true, beq_false, Bool.true_beq, Bool.false_beq, BEq.rfl, Int.reduceEq, Int.reduceLT, Int.reduceLE, Nat.reduceEqDiff, decide_true, decide_false, Bool.not_true, Bool.not_false, Bool.and_true, Bool.true_and, Bool.and_false, Bool.false_and, Bool.or_true, Bool.true_or, Bool.or_false, Bool.false_or, Bool.not_not]
  refine G.loop1 (fun k : Nat => i64 k) (fun k => ob (BoxR tRestE) b (restsOf st k) :: L) (fun k => k ≤ st.length) (fun k => st.length - k) 0 rfl rfl (by simp) ?_
  intro k hk J hJ
  try simp only [↓RG, RP, true_and, and_true, beq_true, beq_false, Bool.true_beq, Bool.false_beq, BEq.rfl, Int.reduceEq, Int.reduceLT, Int.reduceLE, Nat.reduceEqDiff, decide_true, decide_false, Bool.not_true, Bool.not_false, Bool.and_true, Bool.true_and, Bool.and_false, Bool.false_and, Bool.or_true, Bool.true_or, Bool.or_false, Bool.false_or, Bool.not_not]
  refine G.cond (fun h => ?_) (fun h => ?_)
  · have hk2 : k < st.length := by simpa using h
    have e := elem_of hk2
    try simp only [↓RG, RP, true_and, and_true, beq_true, beq_false, Bool.true_beq, Bool.false_beq, BEq.rfl, Int.reduceEq, Int.reduceLT, Int.reduceLE, Nat.reduceEqDiff, decide_true, decide_false, Bool.not_true, Bool.not_false, Bool.and_true, Bool.true_and, Bool.and_false, Bool.false_and, Bool.or_true, Bool.true_or, Bool.or_false, Bool.false_or, Bool.not_not]
    refine G.build intE [(k : Int)] rfl (by decide) rfl fun u hu => ?_
    refine s_limbo_Limbo_Add (xs := restsOf st k) (bs := [(k : Int)]) (by simp [restsOf]; omega) ?_
    try simp only [↓RG, RP, true_and, and_true, beq_true, beq_false, Bool.true_beq, Bool.false_beq, BEq.rfl, Int.reduceEq, Int.reduceLT, Int.reduceLE, Nat.reduceEqDiff, decide_true, decide_false, Bool.not_true, Bool.not_false, Bool.and_true, Bool.true_and, Bool.and_false, Bool.false_and, Bool.or_true, Bool.true_or, Bool.or_false, Bool.false_or, Bool.not_not]
    rw [wsucc (by omega)]
    have := hJ (k + 1) hk2 (by omega)
    have e9 : restsOf st (k + 1) = restsOf st k ++ [(k : Int)].map fun n => ⟨n, IntKind.wrap .u64 (st[k].tmod 16)⟩ := by rw [restsOf_succ]; simp [stampOf, hk2]
    rw [e9] at this
    exact this.sub
  have hk2 : k = st.length := by simp at h; omega
  subst hk2
  refine G.nilsl wordE ?_
  refine G.loop2 (σ := Value × Nat) (fun s => s.1) (fun s => i64 s.2) (fun s => sl wordE s.1 ((sl0.take s.2).map slotOf) :: ob (BoxR tRestE) b (restsOf st st.length) :: L) (fun s => s.2 ≤ sl0.length ∧ Cells s.1 [s.1]) (fun s => sl0.length - s.2) (_, 0) rfl rfl rfl ⟨by simp, cells_slice⟩ ?_
  rintro ⟨v, k⟩ ⟨hk, hv⟩ J2 hJ2
  simp only at hk hv hJ2 ⊢
  try simp only [↓RG, RP, true_and, and_true, beq_true, beq_false, Bool.true_beq, Bool.false_beq, BEq.rfl, Int.reduceEq, Int.reduceLT, Int.reduceLE, Nat.reduceEqDiff, decide_true, decide_false, Bool.not_true, Bool.not_false, Bool.and_true, Bool.true_and, Bool.and_false, Bool.false_and, Bool.or_true, Bool.true_or, Bool.or_false, Bool.false_or, Bool.not_not]
  refine G.cond (fun h => ?_) (fun h => ?_)
  · have hk2 : k < sl0.length := by simpa using h
    have e := elem_of hk2
    try simp only [↓RG, RP, true_and, and_true, beq_true, beq_false, Bool.true_beq, Bool.false_beq, BEq.rfl, Int.reduceEq, Int.reduceLT, Int.reduceLE, Nat.reduceEqDiff, decide_true, decide_false, Bool.not_true, Bool.not_false, Bool.and_true, Bool.true_and, Bool.and_false, Bool.false_and, Bool.or_true, Bool.true_or, Bool.or_false, Bool.false_or, Bool.not_not]
    refine G.append1 rfl rfl (by decide) (by simp; omega) (by simp [maxLen]; omega) fun y hy => ?_
    try simp only [↓RG, RP, true_and, and_true, beq_true, beq_false, Bool.true_beq, Bool.false_beq, BEq.rfl, Int.reduceEq, Int.reduceLT, Int.reduceLE, Nat.reduceEqDiff, decide_true, decide_false, Bool.not_true, Bool.not_false, Bool.and_true, Bool.true_and, Bool.and_false, Bool.false_and, Bool.or_true, Bool.true_or, Bool.or_false, Bool.false_or, Bool.not_not]
    rw [wsucc (by omega)]
    have := hJ2 (y, k + 1) ⟨hk2, hy⟩ (by simp; omega)
    rw [List.take_add_one, List.getElem?_eq_getElem hk2, List.map_append] at this
    exact this
  have ht : sl0.take k = sl0 := List.take_of_length_le (by simpa using h)
  rw [ht]
  generalize hss : sl0.map slotOf = ss
  have hsl : ss.length ≤ 4 := by rw [← hss]; simpa using hl.2
  have hrl : (restsOf st st.length).length = st.length := by simp [restsOf]
  have hsum := filter_two (fun x : TRest => passed ss x.stamp) (restsOf st st.length)
  refine s_limbo_Limbo_Ripe (xs := restsOf st st.length) (ss := ss) (by omega) (by omega) fun u hu => ?_
  -- what came is ripe, each in its place
  refine G.loopc1 (fun k : Nat => i64 k) (fun k => k ≤ ((restsOf st st.length).filter fun x => passed ss x.stamp).length) (fun k => 100 - k) 0 rfl (by simp) ?_
  intro k hk J3 hJ3
  try simp only [↓RG, RP, true_and, and_true, beq_true, beq_false, Bool.true_beq, Bool.false_beq, BEq.rfl, Int.reduceEq, Int.reduceLT, Int.reduceLE, Nat.reduceEqDiff, decide_true, decide_false, Bool.not_true, Bool.not_false, Bool.and_true, Bool.true_and, Bool.and_false, Bool.false_and, Bool.or_true, Bool.true_or, Bool.or_false, Bool.false_or, Bool.not_not]
  refine G.cond (fun h => ?_) (fun h => ?_)
  · have hk2 : k < ((restsOf st st.length).filter fun x => passed ss x.stamp).length := by simpa using h
    obtain ⟨x, e⟩ : ∃ x, Elem ((restsOf st st.length).filter fun x => passed ss x.stamp) k x := ⟨_, elem_of hk2⟩
    obtain ⟨hp, j, hj, rfl⟩ := restsOf_elem _ _ _ e.eq
    have e2 := elem_of hj
    refine G.drew ?_
    try simp only [↓RG, RP, true_and, and_true, beq_true, beq_false, Bool.true_beq, Bool.false_beq, BEq.rfl, Int.reduceEq, Int.reduceLT, Int.reduceLE, Nat.reduceEqDiff, decide_true, decide_false, Bool.not_true, Bool.not_false, Bool.and_true, Bool.true_and, Bool.and_false, Bool.false_and, Bool.or_true, Bool.true_or, Bool.or_false, Bool.false_or, Bool.not_not]
    refine s_epoch_Passed (xs := ss) (by omega) ?_
    simp only at hp
    have hg : st.getD j 0 = st[j] := by simp [hj]
    rw [hg] at hp
    try simp only [↓RG, RP, true_and, and_true, beq_true, beq_false, Bool.true_beq, Bool.false_beq, BEq.rfl, Int.reduceEq, Int.reduceLT, Int.reduceLE, Nat.reduceEqDiff, decide_true, decide_false, Bool.not_true, Bool.not_false, Bool.and_true, Bool.true_and, Bool.and_false, Bool.false_and, Bool.or_true, Bool.true_or, Bool.or_false, Bool.false_or, Bool.not_not, hp, hg]
    have h3 : (decide ((j : Int) < 0)) = false := by simp
    have h4 : (decide ((st.length : Int) ≤ j)) = false := by simp; omega
    try simp only [↓RG, RP, true_and, and_true, beq_true, beq_false, Bool.true_beq, Bool.false_beq, BEq.rfl, Int.reduceEq, Int.reduceLT, Int.reduceLE, Nat.reduceEqDiff, decide_true, decide_false, Bool.not_true, Bool.not_false, Bool.and_true, Bool.true_and, Bool.and_false, Bool.false_and, Bool.or_true, Bool.true_or, Bool.or_false, Bool.false_or, Bool.not_not, h3, h4, hg, stampOf]
    refine G.all false (fun hk0 K hK => ?_) ?_
    · have hk0 : 0 < k := by simpa using hk0
      obtain ⟨y, ey⟩ : ∃ y, Elem ((restsOf st st.length).filter fun x => passed ss x.stamp) (k - 1) y := ⟨_, elem_of (by omega)⟩
      have hlt := restsOf_rise st st.length (fun x => passed ss x.stamp) (i := k - 1) ey.eq (by rw [Nat.sub_add_cancel hk0]; exact e.eq)
      have ix : IxI (IntKind.wrap .i64 ((k : Int) - 1)) (k - 1) := ⟨by rw [wi64 (by omega) (by omega)]; omega⟩
      have h5 : decide ((j : Int) ≤ y.place) = false := by simp at hlt ⊢; omega
      try simp only [↓RG, RP, true_and, and_true, beq_true, beq_false, Bool.true_beq, Bool.false_beq, BEq.rfl, Int.reduceEq, Int.reduceLT, Int.reduceLE, Nat.reduceEqDiff, decide_true, decide_false, Bool.not_true, Bool.not_false, Bool.and_true, Bool.true_and, Bool.and_false, Bool.false_and, Bool.or_true, Bool.true_or, Bool.or_false, Bool.false_or, Bool.not_not, h5]
      exact hK
    try simp only [↓RG, RP, true_and, and_true, beq_true, beq_false, Bool.true_beq, Bool.false_beq, BEq.rfl, Int.reduceEq, Int.reduceLT, Int.reduceLE, Nat.reduceEqDiff, decide_true, decide_false, Bool.not_true, Bool.not_false, Bool.and_true, Bool.true_and, Bool.and_false, Bool.false_and, Bool.or_true, Bool.true_or, Bool.or_false, Bool.false_or, Bool.not_not]
    rw [wsucc (by omega)]
    exact (hJ3 (k + 1) hk2 (by omega)).sub
  refine s_limbo_Limbo_All (by omega) fun u2 hu2 => ?_
  refine G.loopc1 (fun k : Nat => i64 k) (fun k => k ≤ ((restsOf st st.length).filter fun x => !passed ss x.stamp).length) (fun k => 100 - k) 0 rfl (by simp) ?_
  intro k hk J4 hJ4
  try simp only [↓RG, RP, true_and, and_true, beq_true, beq_false, Bool.true_beq, Bool.false_beq, BEq.rfl, Int.reduceEq, Int.reduceLT, Int.reduceLE, Nat.reduceEqDiff, decide_true, decide_false, Bool.not_true, Bool.not_false, Bool.and_true, Bool.true_and, Bool.and_false, Bool.false_and, Bool.or_true, Bool.true_or, Bool.or_false, Bool.false_or, Bool.not_not]
  refine G.cond (fun h => ?_) (fun h => ?_)
  · have hk2 : k < ((restsOf st st.length).filter fun x => !passed ss x.stamp).length := by simpa using h
    obtain ⟨x, e⟩ : ∃ x, Elem ((restsOf st st.length).filter fun x => !passed ss x.stamp) k x := ⟨_, elem_of hk2⟩
    obtain ⟨hp, j, hj, rfl⟩ := restsOf_elem _ _ _ e.eq
    try simp only [↓RG, RP, true_and, and_true, beq_true, beq_false, Bool.true_beq, Bool.false_beq, BEq.rfl, Int.reduceEq, Int.reduceLT, Int.reduceLE, Nat.reduceEqDiff, decide_true, decide_false, Bool.not_true, Bool.not_false, Bool.and_true, Bool.true_and, Bool.and_false, Bool.false_and, Bool.or_true, Bool.true_or, Bool.or_false, Bool.false_or, Bool.not_not]
    refine s_epoch_Passed (xs := ss) (by omega) ?_
    simp only [Bool.not_eq_true'] at hp
    try simp only [↓RG, RP, true_and, and_true, beq_true, beq_false, Bool.true_beq, Bool.false_beq, BEq.rfl, Int.reduceEq, Int.reduceLT, Int.reduceLE, Nat.reduceEqDiff, decide_true, decide_false, Bool.not_true, Bool.not_false, Bool.and_true, Bool.true_and, Bool.and_false, Bool.false_and, Bool.or_true, Bool.true_or, Bool.or_false, Bool.false_or, Bool.not_not, hp]
    rw [wsucc (by omega)]
    exact hJ4 (k + 1) hk2 (by omega)
  try simp only [↓RG, RP, true_and, and_true, beq_true, beq_false, Bool.true_beq, Bool.false_beq, BEq.rfl, Int.reduceEq, Int.reduceLT, Int.reduceLE, Nat.reduceEqDiff, decide_true, decide_false, Bool.not_true, Bool.not_false, Bool.and_true, Bool.true_and, Bool.and_false, Bool.false_and, Bool.or_true, Bool.true_or, Bool.or_false, Bool.false_or, Bool.not_not]
  have h6 : (!decide (IntKind.wrap .i64 ((((restsOf st st.length).filter fun x => passed ss x.stamp).length : Int) + ((restsOf st st.length).filter fun x => !passed ss x.stamp).length) = st.length)) = false := by
    rw [wi64 (by omega) (by omega)]; simp; omega
  try simp only [↓RG, RP, true_and, and_true, beq_true, beq_false, Bool.true_beq, Bool.false_beq, BEq.rfl, Int.reduceEq, Int.reduceLT, Int.reduceLE, Nat.reduceEqDiff, decide_true, decide_false, Bool.not_true, Bool.not_false, Bool.and_true, Bool.true_and, Bool.and_false, Bool.false_and, Bool.or_true, Bool.true_or, Bool.or_false, Bool.false_or, Bool.not_not, h6]
  refine s_limbo_Limbo_Ripe (ss := ss) (by omega) (by omega) fun u3 hu3 => ?_
  have h7 : ((restsOf st st.length).filter fun x => !passed ss x.stamp).filter (fun x => passed ss x.stamp) = [] := by
    rw [List.filter_filter, List.filter_eq_nil_iff]; intro x _; simp
  have h8 : ((restsOf st st.length).filter fun x => !passed ss x.stamp).filter (fun x => !passed ss x.stamp) = (restsOf st st.length).filter fun x => !passed ss x.stamp := by
    rw [List.filter_filter]; simp
  rw [h7, h8]
  try simp [↓RG, RP]
  have hw : IntKind.wrap .u64 (20 + IntKind.wrap .u64 m) = 20 + m := by
    rw [wu64 (n := m) (by omega) (by omega), wu64 (by omega) (by omega)]
  rw [hw]
  refine G.build wordE [0, 20 + m] rfl (by decide) rfl fun u4 hu4 => ?_
  refine s_limbo_Limbo_Ripe (ss := [0, 20 + m]) (by omega) (by simp) fun u5 hu5 => ?_
  have hall : ∀ x ∈ (restsOf st st.length).filter fun x => !passed ss x.stamp, passed [0, 20 + m] x.stamp = true := by
    intro x hx
    obtain ⟨j, hj, e⟩ := List.mem_map.1 (List.mem_filter.1 hx).1
    subst e
    have hj := List.mem_range.1 hj
    have hg : st.getD j 0 = st[j] := by simp [hj]
    have := stampOf_le (hst st[j] (List.getElem_mem hj))
    simp only [hg, passed, List.all_cons, List.all_nil]
    simp
    omega
  have h9 : ((restsOf st st.length).filter fun x => !passed ss x.stamp).filter (fun x => passed [0, 20 + m] x.stamp) = (restsOf st st.length).filter fun x => !passed ss x.stamp := List.filter_eq_self.2 hall
  have h10 : ((restsOf st st.length).filter fun x => !passed ss x.stamp).filter (fun x => !passed [0, 20 + m] x.stamp) = [] := by
    rw [List.filter_eq_nil_iff]; intro x hx; rw [hall x hx]; simp
  rw [h9, h10]
  refine s_book_Same_api_Rest (by omega) ?_
  try simp only [↓RG, RP, true_and, and_true, beq_true, beq_false, Bool.true_beq, Bool.false_beq, BEq.rfl, Int.reduceEq, Int.reduceLT, Int.reduceLE, Nat.reduceEqDiff, decide_true, decide_false, Bool.not_true, Bool.not_false, Bool.and_true, Bool.true_and, Bool.and_false, Bool.false_and, Bool.or_true, Bool.true_or, Bool.or_false, Bool.false_or, Bool.not_not]
  refine s_limbo_Limbo_Len ?_
  try simp [↓RG, RP]
  exact hK.sub

end
end Go.Proofs.Ytpabihjmjkodbaa.S
