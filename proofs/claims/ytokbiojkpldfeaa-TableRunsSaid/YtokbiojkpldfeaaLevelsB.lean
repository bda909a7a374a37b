/-
  CHAPTER 9: more contracts of package levels.
-/
import Derived.Test.YtokbiojkpldfeaaLevels
namespace Go.Proofs.Ytokbiojkpldfeaa.S
open Go Go.Proofs
set_option linter.unusedVariables false
set_option linter.unusedSimpArgs false

theorem totalC_take {l : List Lv} {k : Nat} (hk : k < l.length) : totalC (l.take (k + 1)) = totalC (l.take k) + l[k].c.length := by
  rw [List.take_add_one, List.getElem?_eq_getElem hk, totalC_append]
  simp [totalC]
theorem totalC_take_le {l : List Lv} {k : Nat} : totalC (l.take k) ≤ totalC l := by
  have : totalC (l.take k ++ l.drop k) = totalC (l.take k) + totalC (l.drop k) := totalC_append
  rw [List.take_append_drop] at this
  omega
theorem freesR_take {l : List Lv} {k : Nat} (hk : k < l.length) : freesR (l.take (k + 1)) = freesR (l.take k) ++ l[k].f := by
  rw [List.take_add_one, List.getElem?_eq_getElem hk, freesR_append]
  simp [freesR]
theorem freesR_take_le {l : List Lv} {k : Nat} (hk : k < l.length) : (freesR (l.take k)).length + l[k].f.length ≤ (freesR l).length := by
  have : freesR (l.take (k + 1) ++ l.drop (k + 1)) = freesR (l.take (k + 1)) ++ freesR (l.drop (k + 1)) := freesR_append
  rw [List.take_append_drop, freesR_take hk] at this
  rw [this]
  simp

section
variable {w0 : Base} {L M : List Asn} {K : KV} {F : World → Prop} {C : Asn → List Asn} {b p c k : Nat} {a x n : Int} {r : Lv} {s : LvS} {l us : List (Nat × Nat × Lv)} {v : Value} {xs : List Nat}

theorem at_k {k : Nat} (hk : k < l.length) : ∃ p c, l[k]? = some (p, c, l[k].2.2) ∧ Elem (ptrs l) k p ∧ ∃ h : k < (lvs l).length, (lvs l)[k] = l[k].2.2 :=
  ⟨l[k].1, l[k].2.1, List.getElem?_eq_getElem hk, ⟨by simp [hk]⟩, by simpa using hk, by simp⟩

theorem s_Room_open (hx : xs = ptrs l) (hl : l.length ≤ 1000000) (h0 : 0 ≤ n) (h1 : n ≤ 96) (ht : totalC (lvs l) ≤ 96) (hK : G w0 (own b [i64 n, v] :: sl ptrE v xs :: ob UpR b l :: M) (K (i64 (n - totalC (lvs l))))) :
    G w0 (own b [i64 n, v] :: sl ptrE v xs :: ob UpR b l :: M) (CP Try.prog Fn.levels_Levels_Room [ptr b 0] K) := by
  subst hx
  refine C_levels_Levels_Room ?_
  unfold S_levels_Levels_Room
  have hll : (ptrs l).length = l.length := by simp
  try simp (maxSteps := 2000000) only [↓RG, RP, true_and, and_true, beq_true, beq_false, Bool.true_beq, Bool.false_beq, BEq.rfl, Int.reduceEq, Int.reduceLT, Int.reduceLE, Nat.reduceEqDiff, decide_true, decide_false, Bool.not_true, Bool.not_false, Bool.and_true, Bool.true_and, Bool.and_false, Bool.false_and, Bool.or_true, Bool.true_or, Bool.or_false, Bool.false_or, Bool.not_not, hll]
  refine G.loop2 (fun k : Nat => i64 (n - totalC ((lvs l).take k))) (fun k : Nat => i64 k) (fun _ => own b [i64 n, v] :: sl ptrE v (ptrs l) :: ob UpR b l :: M) (fun k => k ≤ l.length) (fun k => l.length - k) 0 (by simp [totalC]) rfl rfl (by simp) ?_
  intro k hk J hJ
  try simp (maxSteps := 2000000) only [↓RG, RP, true_and, and_true, beq_true, beq_false, Bool.true_beq, Bool.false_beq, BEq.rfl, Int.reduceEq, Int.reduceLT, Int.reduceLE, Nat.reduceEqDiff, decide_true, decide_false, Bool.not_true, Bool.not_false, Bool.and_true, Bool.true_and, Bool.and_false, Bool.false_and, Bool.or_true, Bool.true_or, Bool.or_false, Bool.false_or, Bool.not_not]
  refine G.cond (fun h => ?_) (fun h => ?_)
  · have hk2 : k < l.length := by simpa using h
    obtain ⟨p, c, hx, e, hk3, e2⟩ := at_k hk2
    have t1 := totalC_take hk3
    have t2 := totalC_take_le (l := lvs l) (k := k)
    have t3 := totalC_take_le (l := lvs l) (k := k + 1)
    rw [e2] at t1
    generalize l[k].2.2 = r at hx t1
    try simp (maxSteps := 2000000) only [↓RG, RP, true_and, and_true, beq_true, beq_false, Bool.true_beq, Bool.false_beq, BEq.rfl, Int.reduceEq, Int.reduceLT, Int.reduceLE, Nat.reduceEqDiff, decide_true, decide_false, Bool.not_true, Bool.not_false, Bool.and_true, Bool.true_and, Bool.and_false, Bool.false_and, Bool.or_true, Bool.true_or, Bool.or_false, Bool.false_or, Bool.not_not]
    refine G.take1 UpR b ?_
    rw [UpR_at hx, LevelR_open]
    intro v2 hv2
    try simp (maxSteps := 2000000) only [↓RG, RP, true_and, and_true, beq_true, beq_false, Bool.true_beq, Bool.false_beq, BEq.rfl, Int.reduceEq, Int.reduceLT, Int.reduceLE, Nat.reduceEqDiff, decide_true, decide_false, Bool.not_true, Bool.not_false, Bool.and_true, Bool.true_and, Bool.and_false, Bool.false_and, Bool.or_true, Bool.true_or, Bool.or_false, Bool.false_or, Bool.not_not]
    refine s_writes_Writes_Len (cs := r.c) (most := 96) ?_
    try simp (maxSteps := 2000000) only [↓RG, RP, true_and, and_true, beq_true, beq_false, Bool.true_beq, Bool.false_beq, BEq.rfl, Int.reduceEq, Int.reduceLT, Int.reduceLE, Nat.reduceEqDiff, decide_true, decide_false, Bool.not_true, Bool.not_false, Bool.and_true, Bool.true_and, Bool.and_false, Bool.false_and, Bool.or_true, Bool.true_or, Bool.or_false, Bool.false_or, Bool.not_not]
    rw [wsucc (by omega), wi64 (by omega) (by omega)]
    refine LevelR_close p c r hv2 ?_
    refine UpR_back (b := b) hx ?_
    have h := hJ (k + 1) hk2 (by omega)
    rw [t1] at h
    rw [show n - (totalC (List.take k (lvs l)) : Int) - r.c.length = n - ((totalC (List.take k (lvs l)) + r.c.length : Nat) : Int) by omega]
    exact h.sub
  · have : (lvs l).take k = lvs l := List.take_of_length_le (by simpa using h)
    rw [this]
    exact hK

theorem OkL.total {s : LvS} (hs : OkL s) (hl : lvs l = s.up.reverse ++ [s.r]) : totalC (lvs l) = totalC (s.r :: s.up) := by
  rw [hl, totalC_append, totalC_reverse, totalC_cons, totalC_cons]; simp [totalC]; omega

theorem l_len {s : LvS} (hl : lvs l = s.up.reverse ++ [s.r]) : l.length = s.up.length + 1 := by
  have := congrArg List.length hl
  simpa using this

theorem s_levels_Levels_Room [i : SelOb L LevelsR b s C] (hK : G w0 L (K (i64 s.room))) : G w0 L (CP Try.prog Fn.levels_Levels_Room [ptr b 0] K) := by
  refine i.ro (fun M hK => ?_) hK
  rw [LevelsR_open] at *
  rintro v l ⟨hv, hs, hl⟩
  have h1 := hs.lo
  have h2 := hs.hi
  have h3 := hs.len
  have h4 := hs.six
  have h5 := l_len hl
  have ht := hs.total hl
  refine s_Room_open rfl (by omega) (by omega) (by omega) (by omega) ?_
  rw [ht]
  exact hK v l ⟨hv, hs, hl⟩

theorem s_levels_Levels_Put [i : SelOb L LevelsR b s C] (hK : G w0 (C (ob LevelsR b (if lErr s a = 0 then s.put a x else s))) (K (i64 (lErr s a)))) : G w0 L (CP Try.prog Fn.levels_Levels_Put [ptr b 0, i64 a, u64 x] K) := by
  refine i.use (fun M hK => ?_) hK
  refine C_levels_Levels_Put ?_
  unfold S_levels_Levels_Put
  try simp (maxSteps := 2000000) only [fuse_and, fuse_or, fuse_step, fuse_pair, fuse_in, andP_true]
  try simp (maxSteps := 2000000) only [↓RG, RP, true_and, and_true, beq_true, beq_false, Bool.true_beq, Bool.false_beq, BEq.rfl, Int.reduceEq, Int.reduceLT, Int.reduceLE, Nat.reduceEqDiff, decide_true, decide_false, Bool.not_true, Bool.not_false, Bool.and_true, Bool.true_and, Bool.and_false, Bool.false_and, Bool.or_true, Bool.true_or, Bool.or_false, Bool.false_or, Bool.not_not]
  refine G.cond (fun h => ?_) (fun h => ?_)
  · have h0 : lErr s a = 2 := by unfold lErr; rw [if_neg]; rw [okAt_iff]; simp at h; omega
    rw [h0] at hK
    exact hK
  · have ha : okAt a = true := by rw [okAt_iff]; simp at h; omega
    rw [LevelsR_in]
    rintro v p c us ⟨hv, hs, hu⟩
    have hul := us_len hu
    have h6 := hs.six
    have b1 := hs.lo
    have b2 := hs.hi
    have b3 := hs.len
    refine s_in (by omega) ?_
    refine G.take1 LevelR p ?_
    rw [LevelR_open]
    intro v2 hv2
    try simp (maxSteps := 2000000) only [↓RG, RP, true_and, and_true, beq_true, beq_false, Bool.true_beq, Bool.false_beq, BEq.rfl, Int.reduceEq, Int.reduceLT, Int.reduceLE, Nat.reduceEqDiff, decide_true, decide_false, Bool.not_true, Bool.not_false, Bool.and_true, Bool.true_and, Bool.and_false, Bool.false_and, Bool.or_true, Bool.true_or, Bool.or_false, Bool.false_or, Bool.not_not]
    refine s_writes_Writes_Get (cs := s.r.c) (most := 96) ?_
    have hsome := idxC_isSome (cs := s.r.c) (a := a)
    cases hi : lookC s.r.c a with
    | some y =>
      rw [hi] at hsome
      have h0 : lErr s a = 0 := by unfold lErr; rw [if_pos ha, hsome]; rfl
      have h1 : wErr 96 s.r.c a = 0 := by unfold wErr; rw [if_pos ha, hsome]; rfl
      rw [h0, if_pos rfl] at hK
      simp only [lookV, hi]
      repeat' (first | (with_reducible refine G.joini0 ?_) | (with_reducible refine G.joini1 ?_) | (with_reducible refine G.drew ?_) | (simp (maxSteps := 2000000) only [↓RG, RP, true_and, and_true, beq_true, beq_false, Bool.true_beq, Bool.false_beq, BEq.rfl, Int.reduceEq, Int.reduceLT, Int.reduceLE, Nat.reduceEqDiff, decide_true, decide_false, Bool.not_true, Bool.not_false, Bool.and_true, Bool.true_and, Bool.and_false, Bool.false_and, Bool.or_true, Bool.true_or, Bool.or_false, Bool.false_or, Bool.not_not]))
      refine s_writes_Writes_Put (cs := s.r.c) (most := 96) ?_
      rw [h1, if_pos rfl]
      refine LevelR_close p c ⟨putC s.r.c a x, s.r.f⟩ hv2 ?_
      refine LevelsR_close b ⟨s.most, ⟨putC s.r.c a x, s.r.f⟩, s.up⟩ us p c rfl ⟨hv, hs.put h0, hu⟩ ?_
      exact hK
    | none =>
      rw [hi] at hsome
      have hsome : (idxC s.r.c a).isSome = false := by simpa using hsome
      simp only [lookV, hi]
      repeat' (first | (with_reducible refine G.joini0 ?_) | (with_reducible refine G.joini1 ?_) | (with_reducible refine G.drew ?_) | (simp (maxSteps := 2000000) only [↓RG, RP, true_and, and_true, beq_true, beq_false, Bool.true_beq, Bool.false_beq, BEq.rfl, Int.reduceEq, Int.reduceLT, Int.reduceLE, Nat.reduceEqDiff, decide_true, decide_false, Bool.not_true, Bool.not_false, Bool.and_true, Bool.true_and, Bool.and_false, Bool.false_and, Bool.or_true, Bool.true_or, Bool.or_false, Bool.false_or, Bool.not_not]))
      refine LevelR_close p c s.r hv2 ?_
      refine UpR_push b us p c s.r ?_
      refine G.take1 (slR ptrE) v ?_
      refine G.take1 ownR b ?_
      have hl : lvs (us ++ [(p, c, s.r)]) = s.up.reverse ++ [s.r] := by rw [lvs_append, hu]; rfl
      have ht := hs.total hl
      refine s_Room_open (l := us ++ [(p, c, s.r)]) (by rw [ptrs_append]; rfl) (by simp; omega) (by omega) (by omega) (by omega) ?_
      rw [ht]
      by_cases hr : s.room = 0
      · have h0 : lErr s a = 5 := by unfold lErr; rw [if_pos ha, hsome]; simp [hr]
        have hr2 : s.most - (totalC (s.r :: s.up) : Int) = 0 := hr
        rw [h0, if_neg (by decide)] at hK
        repeat' (first | (with_reducible refine G.joini0 ?_) | (with_reducible refine G.joini1 ?_) | (with_reducible refine G.drew ?_) | (simp (maxSteps := 2000000) only [↓RG, RP, true_and, and_true, beq_true, beq_false, Bool.true_beq, Bool.false_beq, BEq.rfl, Int.reduceEq, Int.reduceLT, Int.reduceLE, Nat.reduceEqDiff, decide_true, decide_false, Bool.not_true, Bool.not_false, Bool.and_true, Bool.true_and, Bool.and_false, Bool.false_and, Bool.or_true, Bool.true_or, Bool.or_false, Bool.false_or, Bool.not_not, hr2]))
        refine G.take1 UpR b ?_
        rw [UpR_snoc]
        refine LevelsR_close b s us p c rfl ⟨hv, hs, hu⟩ ?_
        exact hK
      · have h0 : lErr s a = 0 := by unfold lErr; rw [if_pos ha, hsome]; simp [hr]
        have hr2 : ¬ s.most - (totalC (s.r :: s.up) : Int) = 0 := hr
        have hlen : s.r.c.length < 96 := by rw [totalC_cons] at b3 hr2; omega
        have h1 : wErr 96 s.r.c a = 0 := by unfold wErr; rw [if_pos ha, hsome, if_neg (by decide), if_neg (by omega)]
        rw [h0, if_pos rfl] at hK
        repeat' (first | (with_reducible refine G.joini0 ?_) | (with_reducible refine G.joini1 ?_) | (with_reducible refine G.drew ?_) | (simp (maxSteps := 2000000) only [↓RG, RP, true_and, and_true, beq_true, beq_false, Bool.true_beq, Bool.false_beq, BEq.rfl, Int.reduceEq, Int.reduceLT, Int.reduceLE, Nat.reduceEqDiff, decide_true, decide_false, Bool.not_true, Bool.not_false, Bool.and_true, Bool.true_and, Bool.and_false, Bool.false_and, Bool.or_true, Bool.true_or, Bool.or_false, Bool.false_or, Bool.not_not, hr2]))
        refine G.take1 UpR b ?_
        rw [UpR_snoc, LevelR_open]
        intro v3 hv3
        refine s_writes_Writes_Put (cs := s.r.c) (most := 96) ?_
        rw [h1, if_pos rfl]
        refine LevelR_close p c ⟨putC s.r.c a x, s.r.f⟩ hv3 ?_
        refine LevelsR_close b ⟨s.most, ⟨putC s.r.c a x, s.r.f⟩, s.up⟩ us p c rfl ⟨hv, hs.put h0, hu⟩ ?_
        exact hK

theorem s_levels_Levels_Frees [i : SelOb L LevelsR b s C] (hf : s.frees.length ≤ 1000000) (hK : ∀ u, Cells u [u] → G w0 (sl intE u s.frees :: L) (K u)) : G w0 L (CP Try.prog Fn.levels_Levels_Frees [ptr b 0] K) := by
  refine i.roN (fun M hK => ?_) hK
  rw [LevelsR_open]
  rintro v l ⟨hv, hs, hl⟩
  have hll : (ptrs l).length = l.length := by simp
  have h4 := hs.six
  have h5 := l_len hl
  unfold LvS.frees at hf hK
  rw [← hl] at hf hK
  refine C_levels_Levels_Frees ?_
  unfold S_levels_Levels_Frees
  try simp (maxSteps := 2000000) only [↓RG, RP, true_and, and_true, beq_true, beq_false, Bool.true_beq, Bool.false_beq, BEq.rfl, Int.reduceEq, Int.reduceLT, Int.reduceLE, Nat.reduceEqDiff, decide_true, decide_false, Bool.not_true, Bool.not_false, Bool.and_true, Bool.true_and, Bool.and_false, Bool.false_and, Bool.or_true, Bool.true_or, Bool.or_false, Bool.false_or, Bool.not_not, hll]
  refine G.nilsl intE ?_
  refine G.loop2 (σ := Value × Nat) (fun z => z.1) (fun z => i64 z.2) (fun z => sl intE z.1 (freesR ((lvs l).take z.2)) :: own b [i64 s.most, v] :: sl ptrE v (ptrs l) :: ob UpR b l :: M) (fun z => z.2 ≤ l.length ∧ Cells z.1 [z.1]) (fun z => l.length - z.2) (_, 0) rfl rfl (by simp [freesR]) ⟨by simp, cells_slice⟩ ?_
  rintro ⟨u, k⟩ ⟨hk, hu⟩ J hJ
  simp only at hk hu hJ ⊢
  try simp (maxSteps := 2000000) only [↓RG, RP, true_and, and_true, beq_true, beq_false, Bool.true_beq, Bool.false_beq, BEq.rfl, Int.reduceEq, Int.reduceLT, Int.reduceLE, Nat.reduceEqDiff, decide_true, decide_false, Bool.not_true, Bool.not_false, Bool.and_true, Bool.true_and, Bool.and_false, Bool.false_and, Bool.or_true, Bool.true_or, Bool.or_false, Bool.false_or, Bool.not_not]
  refine G.cond (fun h => ?_) (fun h => ?_)
  · have hk2 : k < l.length := by simpa using h
    obtain ⟨p, c, hx, e, hk3, e2⟩ := at_k hk2
    have t1 := freesR_take hk3
    have t2 := freesR_take_le hk3
    rw [e2] at t1 t2
    generalize l[k].2.2 = r at hx t1 t2
    try simp (maxSteps := 2000000) only [↓RG, RP, true_and, and_true, beq_true, beq_false, Bool.true_beq, Bool.false_beq, BEq.rfl, Int.reduceEq, Int.reduceLT, Int.reduceLE, Nat.reduceEqDiff, decide_true, decide_false, Bool.not_true, Bool.not_false, Bool.and_true, Bool.true_and, Bool.and_false, Bool.false_and, Bool.or_true, Bool.true_or, Bool.or_false, Bool.false_or, Bool.not_not]
    refine G.take1 UpR b ?_
    rw [UpR_at hx, LevelR_open]
    intro v2 hv2
    try simp (maxSteps := 2000000) only [↓RG, RP, true_and, and_true, beq_true, beq_false, Bool.true_beq, Bool.false_beq, BEq.rfl, Int.reduceEq, Int.reduceLT, Int.reduceLE, Nat.reduceEqDiff, decide_true, decide_false, Bool.not_true, Bool.not_false, Bool.and_true, Bool.true_and, Bool.and_false, Bool.false_and, Bool.or_true, Bool.true_or, Bool.or_false, Bool.false_or, Bool.not_not]
    refine G.append (xs := freesR (List.take k (lvs l))) (ys := r.f) (by omega) (by simp only [maxLen]; omega) fun u2 hu2 => ?_
    try simp (maxSteps := 2000000) only [↓RG, RP, true_and, and_true, beq_true, beq_false, Bool.true_beq, Bool.false_beq, BEq.rfl, Int.reduceEq, Int.reduceLT, Int.reduceLE, Nat.reduceEqDiff, decide_true, decide_false, Bool.not_true, Bool.not_false, Bool.and_true, Bool.true_and, Bool.and_false, Bool.false_and, Bool.or_true, Bool.true_or, Bool.or_false, Bool.false_or, Bool.not_not]
    rw [wsucc (by omega)]
    refine LevelR_close p c r hv2 ?_
    refine UpR_back (b := b) hx ?_
    have h := hJ (u2, k + 1) ⟨hk2, hu2⟩ (by simp; omega)
    simp only [t1] at h
    exact h.sub
  · have : (lvs l).take k = lvs l := List.take_of_length_le (by simpa using h)
    rw [this]
    have hK := hK u hu
    rw [G_swap, LevelsR_open] at hK
    exact (hK v l ⟨hv, hs, hl⟩).sub

def lvAt (l : List (Nat × Nat × Lv)) (k : Nat) : Lv := match l[k]? with | some x => x.2.2 | none => ⟨[], []⟩
theorem lvAt_eq {k : Nat} {p c : Nat} {r : Lv} (h : l[k]? = some (p, c, r)) : lvAt l k = r := by unfold lvAt; rw [h]
theorem backs_lvs : (backs (ptrs l).length).map (fun i => lvAt l i.1) = (lvs l).reverse :=
  backs_map (l := lvs l) (lvAt l) (by simp) fun i y h => by
    unfold lvAt
    rw [List.getElem?_map] at h
    cases e : l[i]? with
    | none => rw [e] at h; cases h
    | some z => rw [e] at h; cases h; rfl

def lookRV (s : LvS) (a : Int) : Value := match lookR (s.r :: s.up) a with | some x => .tuple #[u64 x, .bool true] | none => .tuple #[u64 0, .bool false]

theorem s_levels_Levels_Get [i : SelOb L LevelsR b s C] (hK : G w0 L (K (lookRV s a))) : G w0 L (CP Try.prog Fn.levels_Levels_Get [ptr b 0, i64 a] K) := by
  refine i.ro (fun M hK => ?_) hK
  refine C_levels_Levels_Get ?_
  unfold S_levels_Levels_Get
  refine G.box fun x1 => ?_
  refine G.new fun x2 => ?_
  refine G.new fun x3 => ?_
  refine G.take1 LevelsR b ?_
  rw [LevelsR_open]
  rintro v l ⟨hv, hs, hl⟩
  have hll : (ptrs l).length = l.length := by simp
  have h4 := hs.six
  have h5 := l_len hl
  have hrev : (backs (ptrs l).length).map (fun i => lvAt l i.1) = s.r :: s.up := by rw [backs_lvs, hl]; simp
  try simp (maxSteps := 2000000) only [↓RG, RP, true_and, and_true, beq_true, beq_false, Bool.true_beq, Bool.false_beq, BEq.rfl, Int.reduceEq, Int.reduceLT, Int.reduceLE, Nat.reduceEqDiff, decide_true, decide_false, Bool.not_true, Bool.not_false, Bool.and_true, Bool.true_and, Bool.and_false, Bool.false_and, Bool.or_true, Bool.true_or, Bool.or_false, Bool.false_or, Bool.not_not]
  refine C_slices_Backward_levels_level_levels_level ?_
  unfold S_slices_Backward_levels_level_levels_level
  refine G.box (cs := [v]) fun d => ?_
  refine G.backP (v := v) (rows := ptrs l) (fun _ => own d [v] :: own b [i64 s.most, v] :: sl ptrE v (ptrs l) :: ob UpR b l :: own x3 [.bool false] :: own x2 [u64 0] :: own x1 [i64 a] :: M)
    (fun pre => own d [v] :: own b [i64 s.most, v] :: sl ptrE v (ptrs l) :: ob UpR b l :: own x3 [.bool true] :: own x2 [u64 (match pre.getLast? with | some i => (lookC (lvAt l i.1).c a).getD 0 | none => 0)] :: own x1 [i64 a] :: M)
    (fun pre => ∀ i ∈ pre, lookC (lvAt l i.1).c a = none) (fun pre => ∃ pre' i x, pre = pre' ++ [i] ∧ (∀ i ∈ pre', lookC (lvAt l i.1).c a = none) ∧ lookC (lvAt l i.1).c a = some x)
    (by omega) (fun pre W H => ⟨H.own_mem.2.1, (H.drop.drop).sl_is⟩) rfl (by simp) (fun k m pre i J R hp hJ hR => ?_) (fun k m K' hp hk => ?_) (fun k m K' pre hpre hp hk => ?_)
  · have hk2 : i.1 < l.length := by have := i.2; omega
    obtain ⟨p, c, hx, e, hk3, e2⟩ := at_k hk2
    have ep : (ptrs l)[i.1] = p := by have := e.eq; rw [List.getElem?_eq_getElem i.2] at this; exact Option.some.inj this
    generalize hr : l[i.1].2.2 = r at hx
    have hat := lvAt_eq hx
    rw [ep]
    repeat' (first | (with_reducible refine G.joini0 ?_) | (with_reducible refine G.joini1 ?_) | (with_reducible refine G.drew ?_) | (simp (maxSteps := 2000000) only [↓RG, RP, true_and, and_true, beq_true, beq_false, Bool.true_beq, Bool.false_beq, BEq.rfl, Int.reduceEq, Int.reduceLT, Int.reduceLE, Nat.reduceEqDiff, decide_true, decide_false, Bool.not_true, Bool.not_false, Bool.and_true, Bool.true_and, Bool.and_false, Bool.false_and, Bool.or_true, Bool.true_or, Bool.or_false, Bool.false_or, Bool.not_not]))
    refine G.take1 UpR b ?_
    rw [UpR_at hx, LevelR_open]
    intro v2 hv2
    repeat' (first | (with_reducible refine G.joini0 ?_) | (with_reducible refine G.joini1 ?_) | (with_reducible refine G.drew ?_) | (simp (maxSteps := 2000000) only [↓RG, RP, true_and, and_true, beq_true, beq_false, Bool.true_beq, Bool.false_beq, BEq.rfl, Int.reduceEq, Int.reduceLT, Int.reduceLE, Nat.reduceEqDiff, decide_true, decide_false, Bool.not_true, Bool.not_false, Bool.and_true, Bool.true_and, Bool.and_false, Bool.false_and, Bool.or_true, Bool.true_or, Bool.or_false, Bool.false_or, Bool.not_not]))
    refine s_writes_Writes_Get (cs := r.c) (most := 96) ?_
    cases hi : lookC r.c a with
    | some y =>
      simp only [lookV, hi]
      repeat' (first | (with_reducible refine G.joini0 ?_) | (with_reducible refine G.joini1 ?_) | (with_reducible refine G.drew ?_) | (simp (maxSteps := 2000000) only [↓RG, RP, true_and, and_true, beq_true, beq_false, Bool.true_beq, Bool.false_beq, BEq.rfl, Int.reduceEq, Int.reduceLT, Int.reduceLE, Nat.reduceEqDiff, decide_true, decide_false, Bool.not_true, Bool.not_false, Bool.and_true, Bool.true_and, Bool.and_false, Bool.false_and, Bool.or_true, Bool.true_or, Bool.or_false, Bool.false_or, Bool.not_not]))
      refine LevelR_close p c r hv2 ?_
      refine UpR_back (b := b) hx ?_
      have h := hR ⟨pre, i, y, rfl, hp, by rw [hat]; exact hi⟩
      simp only [List.getLast?_append, List.getLast?_singleton, Option.some_or, hat, hi, Option.getD_some] at h
      exact h.sub
    | none =>
      simp only [lookV, hi]
      repeat' (first | (with_reducible refine G.joini0 ?_) | (with_reducible refine G.joini1 ?_) | (with_reducible refine G.drew ?_) | (simp (maxSteps := 2000000) only [↓RG, RP, true_and, and_true, beq_true, beq_false, Bool.true_beq, Bool.false_beq, BEq.rfl, Int.reduceEq, Int.reduceLT, Int.reduceLE, Nat.reduceEqDiff, decide_true, decide_false, Bool.not_true, Bool.not_false, Bool.and_true, Bool.true_and, Bool.and_false, Bool.false_and, Bool.or_true, Bool.true_or, Bool.or_false, Bool.false_or, Bool.not_not]))
      refine LevelR_close p c r hv2 ?_
      refine UpR_back (b := b) hx ?_
      refine (hJ fun j hj => ?_).sub
      rcases List.mem_append.1 hj with h | h
      · exact hp j h
      · rw [List.mem_singleton.1 h, hat]; exact hi
  · have hn : lookR (s.r :: s.up) a = none := by
      rw [← hrev]
      refine lookR_none fun q hq => ?_
      obtain ⟨j, hj, rfl⟩ := List.mem_map.1 hq
      exact hp j hj
    simp only [lookRV, hn] at hK
    repeat' (first | (with_reducible refine G.joini0 ?_) | (with_reducible refine G.joini1 ?_) | (with_reducible refine G.drew ?_) | (simp (maxSteps := 2000000) only [↓RG, RP, true_and, and_true, beq_true, beq_false, Bool.true_beq, Bool.false_beq, BEq.rfl, Int.reduceEq, Int.reduceLT, Int.reduceLE, Nat.reduceEqDiff, decide_true, decide_false, Bool.not_true, Bool.not_false, Bool.and_true, Bool.true_and, Bool.and_false, Bool.false_and, Bool.or_true, Bool.true_or, Bool.or_false, Bool.false_or, Bool.not_not]))
    refine hk _ _ ?_
    rw [LevelsR_open] at hK
    exact (hK v l ⟨hv, hs, hl⟩).sub
  · obtain ⟨pre', i, y, rfl, h1, h2⟩ := hp
    obtain ⟨rest, hrest⟩ := hpre
    have hn : lookR (s.r :: s.up) a = some y := by
      rw [← hrev, ← hrest, List.append_assoc, List.map_append]
      refine lookR_hit h2 fun q hq => ?_
      obtain ⟨j, hj, rfl⟩ := List.mem_map.1 hq
      exact h1 j hj
    simp only [lookRV, hn] at hK
    simp only [List.getLast?_append, List.getLast?_singleton, Option.some_or, h2, Option.getD_some]
    repeat' (first | (with_reducible refine G.joini0 ?_) | (with_reducible refine G.joini1 ?_) | (with_reducible refine G.drew ?_) | (simp (maxSteps := 2000000) only [↓RG, RP, true_and, and_true, beq_true, beq_false, Bool.true_beq, Bool.false_beq, BEq.rfl, Int.reduceEq, Int.reduceLT, Int.reduceLE, Nat.reduceEqDiff, decide_true, decide_false, Bool.not_true, Bool.not_false, Bool.and_true, Bool.true_and, Bool.and_false, Bool.false_and, Bool.or_true, Bool.true_or, Bool.or_false, Bool.false_or, Bool.not_not]))
    refine hk _ _ ?_
    rw [LevelsR_open] at hK
    exact (hK v l ⟨hv, hs, hl⟩).sub

end
end Go.Proofs.Ytokbiojkpldfeaa.S
