/-
  CHAPTER 9: more contracts of the reference's levels.
-/
import Derived.Test.YtlgdcfocnaifbaaLevelsLaw
import Derived.Test.YtlgdcfocnaifbaaRefLevels
namespace Go.Proofs.Ytlgdcfocnaifbaa.S
open Go Go.Proofs
set_option linter.unusedVariables false
set_option linter.unusedSimpArgs false

theorem lKeep_cells {z : LvS} : (lKeep z).1.cells = z.cells := by
  unfold lKeep
  cases e : z.up with
  | nil => rfl
  | cons q up => simp [LvS.cells, e]
theorem lKeep_ok {z : LvS} (h : OkL z) : OkL (lKeep z).1 := by
  unfold lKeep
  cases e : z.up with
  | nil => exact h
  | cons q up => exact h.kept e
theorem lKeep_frees {z : LvS} : (lKeep z).1.frees.length = z.frees.length := by
  unfold lKeep
  cases e : z.up with
  | nil => rfl
  | cons q up => simp [LvS.frees, e, freesR]
theorem lKeep_up {z : LvS} {n : Nat} (h : z.up.length = n + 1) : (lKeep z).1.up.length = n := by
  unfold lKeep
  cases e : z.up with
  | nil => rw [e] at h; cases h
  | cons q up => rw [e] at h; simpa using h

theorem getLast?_take {α : Type} {l : List α} {k : Nat} (hk : k < l.length) : (l.take (k + 1)).reverse = l[k] :: (l.take k).reverse := by
  rw [List.take_add_one, List.getElem?_eq_getElem hk]; simp

section
variable {w0 : Base} {L M : List Asn} {K : KV} {F : World → Prop} {C : Asn → List Asn} {b d i : Nat} {k : TLevel} {a x n : Int} {r : Lv} {s : LvS} {l us : List (TLevel × Lv)} {v : Value}

theorem OkL.each {s : LvS} (hs : OkL s) {q : Lv} (hq : q ∈ s.r :: s.up) : q.c.length ≤ 96 := by
  have h1 := hs.len
  have h2 := hs.hi
  have : q.c.length ≤ totalC (s.r :: s.up) := by
    generalize s.r :: s.up = z at hq
    induction z with
    | nil => cases hq
    | cons y z ih =>
      rw [totalC_cons]
      rcases List.mem_cons.1 hq with e | h
      · rw [e]; omega
      · have := ih h; omega
  omega

theorem s_ref7_Levels_Get [i : SelOb L RLevelsR b s C] (hK : G w0 L (K (lookRV s a))) : G w0 L (CP Try.prog Fn.ref7_Levels_Get [ptr b 0, i64 a] K) := by
  refine i.ro (fun M hK => ?_) hK
  rw [RLevelsR_open] at *
  rintro v l ⟨hv, hs, hl⟩
  have hK := hK v l ⟨hv, hs, hl⟩
  have hll : (rks l).length = l.length := by simp
  have h4 := hs.six
  have h5 := rl_len hl
  have hlv : (rlvs l).length = l.length := by simp
  have hrev : (rlvs l).reverse = s.r :: s.up := by rw [hl]; simp
  refine C_ref7_Levels_Get ?_
  unfold S_ref7_Levels_Get
  have w1 : IntKind.wrap .i64 ((l.length : Int) - 1) = (l.length : Int) - 1 := wi64 (by omega) (by omega)
  try simp (maxSteps := 2000000) only [↓RG, RP, true_and, and_true, beq_true, beq_false, Bool.true_beq, Bool.false_beq, BEq.rfl, Int.reduceEq, Int.reduceLT, Int.reduceLE, Nat.reduceEqDiff, decide_true, decide_false, Bool.not_true, Bool.not_false, Bool.and_true, Bool.true_and, Bool.and_false, Bool.false_and, Bool.or_true, Bool.true_or, Bool.or_false, Bool.false_or, Bool.not_not, hll, w1]
  refine G.loop1 (fun j : Nat => i64 ((j : Int) - 1)) (fun _ => own b [i64 s.most, v] :: sl tLevelE v (rks l) :: ob RUpR b l :: M) (fun j => j ≤ l.length ∧ lookR (s.r :: s.up) a = lookR ((rlvs l).take j).reverse a) (fun j => j) l.length rfl rfl ⟨by omega, by rw [← hlv, List.take_length, hrev]⟩ ?_
  rintro j ⟨hj, hp⟩ J hJ
  cases j with
  | zero =>
    have e1 : ¬ (0 : Int) ≤ ((0 : Nat) : Int) - 1 := by omega
    have hn : lookR (s.r :: s.up) a = none := by rw [hp]; rfl
    simp only [lookRV, hn] at hK
    try simp (maxSteps := 2000000) only [↓RG, RP, true_and, and_true, beq_true, beq_false, Bool.true_beq, Bool.false_beq, BEq.rfl, Int.reduceEq, Int.reduceLT, Int.reduceLE, Nat.reduceEqDiff, decide_true, decide_false, Bool.not_true, Bool.not_false, Bool.and_true, Bool.true_and, Bool.and_false, Bool.false_and, Bool.or_true, Bool.true_or, Bool.or_false, Bool.false_or, Bool.not_not, e1]
    exact hK
  | succ j =>
    have e0 : ((j + 1 : Nat) : Int) - 1 = (j : Int) := by omega
    rw [e0]
    have e1 : (0 : Int) ≤ (j : Int) := by omega
    have hk2 : j < l.length := by omega
    obtain ⟨k, hx, e, hk3, e2⟩ := rat_k hk2
    have hmem : l[j].2 ∈ s.r :: s.up := by rw [← hrev]; exact List.mem_reverse.2 (by rw [← e2]; exact List.getElem_mem hk3)
    have hc := hs.each hmem
    rw [getLast?_take hk3, e2] at hp
    have w2 : IntKind.wrap .i64 ((j : Int) - 1) = (j : Int) - 1 := wi64 (by omega) (by omega)
    generalize l[j].2 = r at hx hp hc
    try simp (maxSteps := 2000000) only [↓RG, RP, true_and, and_true, beq_true, beq_false, Bool.true_beq, Bool.false_beq, BEq.rfl, Int.reduceEq, Int.reduceLT, Int.reduceLE, Nat.reduceEqDiff, decide_true, decide_false, Bool.not_true, Bool.not_false, Bool.and_true, Bool.true_and, Bool.and_false, Bool.false_and, Bool.or_true, Bool.true_or, Bool.or_false, Bool.false_or, Bool.not_not, e1]
    refine G.take1 RUpR b ?_
    rw [RUpR_at hx, RLevR_open]
    try simp (maxSteps := 2000000) only [↓RG, RP, true_and, and_true, beq_true, beq_false, Bool.true_beq, Bool.false_beq, BEq.rfl, Int.reduceEq, Int.reduceLT, Int.reduceLE, Nat.reduceEqDiff, decide_true, decide_false, Bool.not_true, Bool.not_false, Bool.and_true, Bool.true_and, Bool.and_false, Bool.false_and, Bool.or_true, Bool.true_or, Bool.or_false, Bool.false_or, Bool.not_not]
    refine s_ref7_Place (cs := r.c) (by omega) ?_
    cases hi : idxC r.c a with
    | some m =>
      obtain ⟨hm, _, _, hw⟩ := idxC_some hi
      have e := elem_of hm
      have e3 : (0 : Int) ≤ (m : Int) := by omega
      have hn : lookR (s.r :: s.up) a = some r.c[m].word := by rw [hp]; unfold lookR; rw [hw]
      simp only [lookRV, hn] at hK
      rw [idxI_some hi]
      try simp (maxSteps := 2000000) only [↓RG, RP, true_and, and_true, beq_true, beq_false, Bool.true_beq, Bool.false_beq, BEq.rfl, Int.reduceEq, Int.reduceLT, Int.reduceLE, Nat.reduceEqDiff, decide_true, decide_false, Bool.not_true, Bool.not_false, Bool.and_true, Bool.true_and, Bool.and_false, Bool.false_and, Bool.or_true, Bool.true_or, Bool.or_false, Bool.false_or, Bool.not_not, e3]
      refine RLevR_close k r ?_
      refine RUpR_back (b := b) hx ?_
      exact hK.sub
    | none =>
      have hw := (idxC_none hi).2.1
      rw [idxI_none hi]
      try simp (maxSteps := 2000000) only [↓RG, RP, true_and, and_true, beq_true, beq_false, Bool.true_beq, Bool.false_beq, BEq.rfl, Int.reduceEq, Int.reduceLT, Int.reduceLE, Nat.reduceEqDiff, decide_true, decide_false, Bool.not_true, Bool.not_false, Bool.and_true, Bool.true_and, Bool.and_false, Bool.false_and, Bool.or_true, Bool.true_or, Bool.or_false, Bool.false_or, Bool.not_not, w2]
      refine RLevR_close k r ?_
      refine RUpR_back (b := b) hx ?_
      exact (hJ j ⟨by omega, by rw [hp]; show lookR (r :: _) a = _; rw [lookR, hw]⟩ (by omega)).sub

theorem s_ref7_Levels_Copy [i : SelOb L RLevelsR b s C] (hf : s.frees.length ≤ 1000000) (hK : ∀ d, G w0 (ob RLevelsR d s :: L) (K (ptr d 0))) : G w0 L (CP Try.prog Fn.ref7_Levels_Copy [ptr b 0] K) := by
  refine i.roN (P := fun _ => True) (N := fun d => ob RLevelsR d s) (F' := fun d => K (ptr d 0)) (fun M hK => ?_) (fun d _ => hK d)
  rw [RLevelsR_open]
  rintro v l ⟨hv, hs, hl⟩
  have hll : (rks l).length = l.length := by simp
  have h4 := hs.six
  have h5 := rl_len hl
  have hrev : (rlvs l).reverse = s.r :: s.up := by rw [hl]; simp
  have hfl : (freesR (rlvs l)).length ≤ 1000000 := by rw [hl]; exact hf
  refine C_ref7_Levels_Copy ?_
  unfold S_ref7_Levels_Copy
  try simp (maxSteps := 2000000) only [↓RG, RP, true_and, and_true, beq_true, beq_false, Bool.true_beq, Bool.false_beq, BEq.rfl, Int.reduceEq, Int.reduceLT, Int.reduceLE, Nat.reduceEqDiff, decide_true, decide_false, Bool.not_true, Bool.not_false, Bool.and_true, Bool.true_and, Bool.and_false, Bool.false_and, Bool.or_true, Bool.true_or, Bool.or_false, Bool.false_or, Bool.not_not]
  refine G.nilsl tLevelE ?_
  refine G.box (cs := [i64 s.most, .slice none 0 0]) fun d => ?_
  refine G.loop1 (σ := Nat × Value × List (TLevel × Lv)) (fun z => i64 z.1) (fun z => own d [i64 s.most, z.2.1] :: sl tLevelE z.2.1 (rks z.2.2) :: ob RUpR d z.2.2 :: own b [i64 s.most, v] :: sl tLevelE v (rks l) :: ob RUpR b l :: M) (fun z => z.1 ≤ l.length ∧ rlvs z.2.2 = (rlvs l).take z.1 ∧ Cells z.2.1 [z.2.1]) (fun z => l.length - z.1) (0, .slice none 0 0, []) rfl ?_ ⟨by simp, by simp, cells_slice⟩ ?_
  · funext F
    refine G_of_stars ?_
    show star _ (star _ (star (ob RUpR d []) _)) = star _ (star _ _)
    rw [ob_eq RUpR]
    show star _ (star _ (star emp _)) = _
    rw [star_emp]; rfl
  · rintro ⟨j, u, l2⟩ ⟨hj, h2, hu⟩ J hJ
    simp only at hj h2 hu hJ ⊢
    try simp (maxSteps := 2000000) only [↓RG, RP, true_and, and_true, beq_true, beq_false, Bool.true_beq, Bool.false_beq, BEq.rfl, Int.reduceEq, Int.reduceLT, Int.reduceLE, Nat.reduceEqDiff, decide_true, decide_false, Bool.not_true, Bool.not_false, Bool.and_true, Bool.true_and, Bool.and_false, Bool.false_and, Bool.or_true, Bool.true_or, Bool.or_false, Bool.false_or, Bool.not_not, hll]
    refine G.cond (fun h => ?_) (fun h => ?_)
    · have hk2 : j < l.length := by simpa using h
      obtain ⟨k, hx, e, hk3, e2⟩ := rat_k hk2
      have hmem : l[j].2 ∈ s.r :: s.up := by rw [← hrev]; exact List.mem_reverse.2 (by rw [← e2]; exact List.getElem_mem hk3)
      have hc := hs.each hmem
      have hfr := freesR_take_le hk3
      have hl2 : l2.length = j := by have := congrArg List.length h2; simp at this; omega
      have h3 : rlvs (l2 ++ [(k, l[j].2)]) = (rlvs l).take (j + 1) := by rw [rlvs_append, h2, List.take_add_one, List.getElem?_eq_getElem hk3, e2]; rfl
      rw [e2] at hfr
      generalize l[j].2 = r at hx hc hfr h3
      refine G.take1 RUpR b ?_
      rw [RUpR_at hx, RLevR_open]
      repeat' (first | (with_reducible refine G.joini0 ?_) | (with_reducible refine G.joini1 ?_) | (with_reducible refine G.drew ?_) | (simp (maxSteps := 2000000) only [↓RG, RP, true_and, and_true, beq_true, beq_false, Bool.true_beq, Bool.false_beq, BEq.rfl, Int.reduceEq, Int.reduceLT, Int.reduceLE, Nat.reduceEqDiff, decide_true, decide_false, Bool.not_true, Bool.not_false, Bool.and_true, Bool.true_and, Bool.and_false, Bool.false_and, Bool.or_true, Bool.true_or, Bool.or_false, Bool.false_or, Bool.not_not]))
      refine G.nilsl tCellE ?_
      refine G.append (ys := r.c) (by simp; omega) (by simp only [maxLen, List.length_nil]; omega) fun u1 hu1 => ?_
      rw [List.nil_append]
      repeat' (first | (with_reducible refine G.joini0 ?_) | (with_reducible refine G.joini1 ?_) | (with_reducible refine G.drew ?_) | (simp (maxSteps := 2000000) only [↓RG, RP, true_and, and_true, beq_true, beq_false, Bool.true_beq, Bool.false_beq, BEq.rfl, Int.reduceEq, Int.reduceLT, Int.reduceLE, Nat.reduceEqDiff, decide_true, decide_false, Bool.not_true, Bool.not_false, Bool.and_true, Bool.true_and, Bool.and_false, Bool.false_and, Bool.or_true, Bool.true_or, Bool.or_false, Bool.false_or, Bool.not_not]))
      refine G.nilsl intE ?_
      refine G.append (ys := r.f) (by simp; omega) (by simp only [maxLen, List.length_nil]; omega) fun u2 hu2 => ?_
      rw [List.nil_append]
      repeat' (first | (with_reducible refine G.joini0 ?_) | (with_reducible refine G.joini1 ?_) | (with_reducible refine G.drew ?_) | (simp (maxSteps := 2000000) only [↓RG, RP, true_and, and_true, beq_true, beq_false, Bool.true_beq, Bool.false_beq, BEq.rfl, Int.reduceEq, Int.reduceLT, Int.reduceLE, Nat.reduceEqDiff, decide_true, decide_false, Bool.not_true, Bool.not_false, Bool.and_true, Bool.true_and, Bool.and_false, Bool.false_and, Bool.or_true, Bool.true_or, Bool.or_false, Bool.false_or, Bool.not_not]))
      refine G.slv (u := u1) fun a1 n1 c1 eu1 => ?_
      subst eu1
      refine G.slv (u := u2) fun a2 n2 c2 eu2 => ?_
      subst eu2
      repeat' (first | (with_reducible refine G.joini0 ?_) | (with_reducible refine G.joini1 ?_) | (with_reducible refine G.drew ?_) | (simp (maxSteps := 2000000) only [↓RG, RP, true_and, and_true, beq_true, beq_false, Bool.true_beq, Bool.false_beq, BEq.rfl, Int.reduceEq, Int.reduceLT, Int.reduceLE, Nat.reduceEqDiff, decide_true, decide_false, Bool.not_true, Bool.not_false, Bool.and_true, Bool.true_and, Bool.and_false, Bool.false_and, Bool.or_true, Bool.true_or, Bool.or_false, Bool.false_or, Bool.not_not]))
      refine G.build tLevelE [⟨⟨a1, n1, c1⟩, ⟨a2, n2, c2⟩⟩] rfl (by simp) rfl fun u3 hu3 => ?_
      repeat' (first | (with_reducible refine G.joini0 ?_) | (with_reducible refine G.joini1 ?_) | (with_reducible refine G.drew ?_) | (simp (maxSteps := 2000000) only [↓RG, RP, true_and, and_true, beq_true, beq_false, Bool.true_beq, Bool.false_beq, BEq.rfl, Int.reduceEq, Int.reduceLT, Int.reduceLE, Nat.reduceEqDiff, decide_true, decide_false, Bool.not_true, Bool.not_false, Bool.and_true, Bool.true_and, Bool.and_false, Bool.false_and, Bool.or_true, Bool.true_or, Bool.or_false, Bool.false_or, Bool.not_not]))
      refine G.append (xs := rks l2) (ys := [⟨⟨a1, n1, c1⟩, ⟨a2, n2, c2⟩⟩]) (by simp; omega) (by simp [maxLen]; omega) fun u4 hu4 => ?_
      repeat' (first | (with_reducible refine G.joini0 ?_) | (with_reducible refine G.joini1 ?_) | (with_reducible refine G.drew ?_) | (simp (maxSteps := 2000000) only [↓RG, RP, true_and, and_true, beq_true, beq_false, Bool.true_beq, Bool.false_beq, BEq.rfl, Int.reduceEq, Int.reduceLT, Int.reduceLE, Nat.reduceEqDiff, decide_true, decide_false, Bool.not_true, Bool.not_false, Bool.and_true, Bool.true_and, Bool.and_false, Bool.false_and, Bool.or_true, Bool.true_or, Bool.or_false, Bool.false_or, Bool.not_not]))
      rw [wsucc (by omega)]
      have h := hJ (j + 1, u4, l2 ++ [(⟨⟨a1, n1, c1⟩, ⟨a2, n2, c2⟩⟩, r)]) ⟨hk2, by rw [← h3, rlvs_append, rlvs_append]; rfl, hu4⟩ (by simp; omega)
      simp only [rks_append, show ∀ x : TLevel × Lv, rks [x] = [x.1] from fun _ => rfl] at h
      refine RLevR_close ⟨⟨a1, n1, c1⟩, ⟨a2, n2, c2⟩⟩ r ?_
      refine RUpR_push d l2 ⟨⟨a1, n1, c1⟩, ⟨a2, n2, c2⟩⟩ r ?_
      refine RLevR_close k r ?_
      refine RUpR_back (b := b) hx ?_
      exact h.sub
    · have ht : (rlvs l).take j = rlvs l := List.take_of_length_le (by simpa using h)
      rw [ht, hl] at h2
      have h := hK d trivial
      rw [RLevelsR_open] at h
      have h := h u l2 ⟨hu, hs, h2⟩
      refine G.take1 RUpR b ?_
      refine G.take1 (slR tLevelE) v ?_
      refine G.take1 ownR b ?_
      have h' : ∀ {A B D : Asn}, G w0 (A :: B :: D :: ob RLevelsR b s :: M) (K (ptr d 0)) → G w0 (own b [i64 s.most, v] :: sl tLevelE v (rks l) :: ob RUpR b l :: A :: B :: D :: M) (K (ptr d 0)) := fun H => by
        rw [G_rot4] at H
        rw [RLevelsR_open] at H
        exact H v l ⟨hv, hs, hl⟩
      exact h' h

theorem s_ref7_Levels_Take [i : SelOb L RLevelsR b s C] {l : List TCell} [r : ∀ A, Rd w0 (C A) v tCellE 2 l] (hl : l.length ≤ 1000000) (hf : s.frees.length ≤ 1000000) (hK : G w0 (C (ob RLevelsR b (lTake s l).1)) (K (i64 (lTake s l).2))) : G w0 L (CP Try.prog Fn.ref7_Levels_Take [ptr b 0, v] K) := by
  refine i.useM (fun M hM hK => ?_) hK
  have r' := Rd.frame hM r
  refine C_ref7_Levels_Take ?_
  unfold S_ref7_Levels_Take
  refine s_ref7_Levels_Copy (s := s) hf fun d => ?_
  refine G.loop1 (σ := Nat × LvS) (fun z => i64 z.1) (fun z => ob RLevelsR d z.2 :: ob RLevelsR b s :: M) (fun z => z.1 ≤ l.length ∧ lPuts s l = lPuts z.2 (l.drop z.1) ∧ z.2.most = s.most ∧ z.2.up = s.up ∧ z.2.r.f = s.r.f) (fun z => l.length - z.1) (0, s) rfl rfl ⟨by simp, by simp, rfl, rfl, rfl⟩ ?_
  rintro ⟨j, z⟩ ⟨hk, hp, e1, e2, e3⟩ J hJ
  simp only at hk hp e1 e2 e3 hJ ⊢
  try simp (maxSteps := 2000000) only [↓RG, RP, true_and, and_true, beq_true, beq_false, Bool.true_beq, Bool.false_beq, BEq.rfl, Int.reduceEq, Int.reduceLT, Int.reduceLE, Nat.reduceEqDiff, decide_true, decide_false, Bool.not_true, Bool.not_false, Bool.and_true, Bool.true_and, Bool.and_false, Bool.false_and, Bool.or_true, Bool.true_or, Bool.or_false, Bool.false_or, Bool.not_not]
  refine G.cond (fun h => ?_) (fun h => ?_)
  · have hk2 : j < l.length := by simpa using h
    have e := elem_of hk2
    obtain ⟨p1, p2⟩ := lPuts_drop hk2 hp
    repeat' (first | (with_reducible refine G.joini0 ?_) | (with_reducible refine G.joini1 ?_) | (with_reducible refine G.drew ?_) | (simp (maxSteps := 2000000) only [↓RG, RP, true_and, and_true, beq_true, beq_false, Bool.true_beq, Bool.false_beq, BEq.rfl, Int.reduceEq, Int.reduceLT, Int.reduceLE, Nat.reduceEqDiff, decide_true, decide_false, Bool.not_true, Bool.not_false, Bool.and_true, Bool.true_and, Bool.and_false, Bool.false_and, Bool.or_true, Bool.true_or, Bool.or_false, Bool.false_or, Bool.not_not]))
    refine s_ref7_Levels_Put (b := d) (s := z) ?_
    repeat' (first | (with_reducible refine G.joini0 ?_) | (with_reducible refine G.joini1 ?_) | (with_reducible refine G.drew ?_) | (simp (maxSteps := 2000000) only [↓RG, RP, true_and, and_true, beq_true, beq_false, Bool.true_beq, Bool.false_beq, BEq.rfl, Int.reduceEq, Int.reduceLT, Int.reduceLE, Nat.reduceEqDiff, decide_true, decide_false, Bool.not_true, Bool.not_false, Bool.and_true, Bool.true_and, Bool.and_false, Bool.false_and, Bool.or_true, Bool.true_or, Bool.or_false, Bool.false_or, Bool.not_not]))
    refine G.cond (fun h => ?_) (fun h => ?_)
    · have h0 : lErr z l[j].place ≠ 0 := by simpa using h
      have p3 := p2 h0
      have h4 : lTake s l = (s, lErr z l[j].place) := by
        unfold lTake; rw [p3]; simp [h0]
      rw [h4] at hK
      exact hK.sub
    · have h0 : lErr z l[j].place = 0 := by simpa using h
      rw [if_pos h0]
      try simp (maxSteps := 2000000) only [↓RG, RP, true_and, and_true, beq_true, beq_false, Bool.true_beq, Bool.false_beq, BEq.rfl, Int.reduceEq, Int.reduceLT, Int.reduceLE, Nat.reduceEqDiff, decide_true, decide_false, Bool.not_true, Bool.not_false, Bool.and_true, Bool.true_and, Bool.and_false, Bool.false_and, Bool.or_true, Bool.true_or, Bool.or_false, Bool.false_or, Bool.not_not]
      rw [wsucc (by omega)]
      exact (hJ (j + 1, z.put l[j].place l[j].word) ⟨hk2, p1 h0, e1, e2, e3⟩ (by simp; omega)).sub
  · have : l.drop j = [] := List.drop_eq_nil_of_le (by simpa using h)
    rw [this] at hp
    have h4 : lTake s l = (z, 0) := by
      unfold lTake; rw [hp]; simp [lPuts]
    rw [h4, RLevelsR_open] at hK
    rw [RLevelsR_open]
    rintro v2 l2 ⟨hv2, hs2, hl2⟩
    refine G.take1 RLevelsR b ?_
    rw [RLevelsR_open]
    rintro v3 l3 ⟨hv3, hs3, hl3⟩
    repeat' (first | (with_reducible refine G.joini0 ?_) | (with_reducible refine G.joini1 ?_) | (with_reducible refine G.drew ?_) | (simp (maxSteps := 2000000) only [↓RG, RP, true_and, and_true, beq_true, beq_false, Bool.true_beq, Bool.false_beq, BEq.rfl, Int.reduceEq, Int.reduceLT, Int.reduceLE, Nat.reduceEqDiff, decide_true, decide_false, Bool.not_true, Bool.not_false, Bool.and_true, Bool.true_and, Bool.and_false, Bool.false_and, Bool.or_true, Bool.true_or, Bool.or_false, Bool.false_or, Bool.not_not]))
    have h := hK v2 l2 ⟨hv2, hs2, hl2⟩
    rw [RUpR_key d, e1] at h
    exact h.sub

end
end Go.Proofs.Ytlgdcfocnaifbaa.S
