/-
  CHAPTER 9: contracts of the reference's levels: Keep, Whole.
-/
import Derived.Test.YtlgdcfocnaifbaaRefLevelsB
namespace Go.Proofs.Ytlgdcfocnaifbaa.S
open Go Go.Proofs
set_option linter.unusedVariables false
set_option linter.unusedSimpArgs false

instance : Std.Associative star := ⟨star_as⟩
instance : Std.Commutative star := ⟨star_comm⟩

section
variable {w0 : Base} {L M : List Asn} {K : KV} {F : World → Prop} {C : Asn → List Asn} {b d i : Nat} {k : TLevel} {a x n : Int} {r : Lv} {s : LvS} {l us : List (TLevel × Lv)} {v : Value}

theorem SelOb.roN2 {κ σ ι : Type} {R : κ → σ → Asn} {k : κ} {s : σ} {C : Asn → List Asn} [i : SelOb L R k s C] {P : ι → Prop} {N1 N2 : ι → Asn} {F' : ι → World → Prop} (h : ∀ M, (∀ y, P y → G w0 (N1 y :: N2 y :: ob R k s :: M) (F' y)) → G w0 (ob R k s :: M) F)
    (h' : ∀ y, P y → G w0 (N1 y :: N2 y :: L) (F' y)) : G w0 L F := by
  obtain ⟨M, e1, _, _, e2⟩ := i.fronts
  rw [G_of_stars e1]
  refine h M fun y hy => ?_
  rw [← G_of_stars (e2 (N1 y) (N2 y) _), ← i.here]; exact h' y hy

set_option maxHeartbeats 1000000 in
theorem s_ref7_Levels_Keep [i : SelOb L RLevelsR b s C] (hf : s.frees.length ≤ 1000000) (hK : G w0 (C (ob RLevelsR b (lKeep s).1)) (K (i64 (lKeep s).2))) : G w0 L (CP Try.prog Fn.ref7_Levels_Keep [ptr b 0] K) := by
  refine i.use (fun M hK => ?_) hK
  rw [RLevelsR_in]
  rintro v k us ⟨hv, hs, hu⟩
  have hul := rus_len hu
  have h6 := hs.six
  have hll : (rks us ++ [k]).length = s.up.length + 1 := by simp [hul]
  refine C_ref7_Levels_Keep ?_
  unfold S_ref7_Levels_Keep
  unfold lKeep at hK
  cases e : s.up with
  | nil =>
    rw [e] at hK hll
    have h1 : (([] : List Lv).length + 1 : Nat) = 1 := rfl
    have h2 : ((1 : Nat) : Int) = 1 := rfl
    try simp (maxSteps := 2000000) only [↓RG, RP, true_and, and_true, beq_true, beq_false, Bool.true_beq, Bool.false_beq, BEq.rfl, Int.reduceEq, Int.reduceLT, Int.reduceLE, Nat.reduceEqDiff, decide_true, decide_false, Bool.not_true, Bool.not_false, Bool.and_true, Bool.true_and, Bool.and_false, Bool.false_and, Bool.or_true, Bool.true_or, Bool.or_false, Bool.false_or, Bool.not_not, hll, h1, h2]
    refine RLevelsR_close b s us k rfl ⟨hv, hs, hu⟩ ?_
    exact hK
  | cons q up =>
    rw [e] at hK hu hll hul
    obtain ⟨us', k', rfl, hu'⟩ := rup_cons hu
    simp at hul
    have h6 : up.length + 1 < 6 := by have := hs.six; rw [e] at this; simpa using this
    have hll : (rks (us' ++ [(k', q)]) ++ [k]).length = us'.length + 2 := by simp
    have h1 : ¬ (((us'.length + 2 : Nat) : Int) = 1) := by omega
    have h2 : IntKind.wrap .i64 (((us'.length + 2 : Nat) : Int) - 1) = ((us'.length + 1 : Nat) : Int) := by rw [wi64 (by omega) (by omega)]; omega
    have h3 : IntKind.wrap .i64 (((us'.length + 2 : Nat) : Int) - 2) = (us'.length : Int) := by rw [wi64 (by omega) (by omega)]; omega
    have eA : Elem (rks (us' ++ [(k', q)]) ++ [k]) (us'.length + 1) k := ⟨by simp⟩
    have eB : Elem (rks (us' ++ [(k', q)]) ++ [k]) us'.length k' := ⟨by simp⟩
    have eC : Elem (rks us' ++ [k']) us'.length k' := ⟨by simp⟩
    have hf2 : q.f.length + s.r.f.length ≤ 1000000 := by
      unfold LvS.frees at hf
      rw [e, List.reverse_cons, freesR_append, freesR_append] at hf
      simp only [freesR, List.flatMap_cons, List.flatMap_nil, List.append_nil, List.length_append] at hf
      omega
    have hl := hs.len
    have hi := hs.hi
    rw [e, totalC_cons, totalC_cons] at hl
    refine G.take1 RUpR b ?_
    rw [RUpR_snoc]
    refine G.take1 RLevR k ?_
    rw [RLevR_open]
    refine G.take1 RLevR k' ?_
    rw [RLevR_open]
    repeat' (first | (with_reducible refine G.joini0 ?_) | (with_reducible refine G.joini1 ?_) | (with_reducible refine G.drew ?_) | (simp (maxSteps := 2000000) only [↓RG, RP, true_and, and_true, beq_true, beq_false, Bool.true_beq, Bool.false_beq, BEq.rfl, Int.reduceEq, Int.reduceLT, Int.reduceLE, Nat.reduceEqDiff, decide_true, decide_false, Bool.not_true, Bool.not_false, Bool.and_true, Bool.true_and, Bool.and_false, Bool.false_and, Bool.or_true, Bool.true_or, Bool.or_false, Bool.false_or, Bool.not_not, hll, h1, h2, h3]))
    refine G.new fun x12 => ?_
    repeat' (first | (with_reducible refine G.joini0 ?_) | (with_reducible refine G.joini1 ?_) | (with_reducible refine G.drew ?_) | (simp (maxSteps := 2000000) only [↓RG, RP, true_and, and_true, beq_true, beq_false, Bool.true_beq, Bool.false_beq, BEq.rfl, Int.reduceEq, Int.reduceLT, Int.reduceLE, Nat.reduceEqDiff, decide_true, decide_false, Bool.not_true, Bool.not_false, Bool.and_true, Bool.true_and, Bool.and_false, Bool.false_and, Bool.or_true, Bool.true_or, Bool.or_false, Bool.false_or, Bool.not_not, hll, h1, h2, h3]))
    refine G.new fun x20 => ?_
    repeat' (first | (with_reducible refine G.joini0 ?_) | (with_reducible refine G.joini1 ?_) | (with_reducible refine G.drew ?_) | (simp (maxSteps := 2000000) only [↓RG, RP, true_and, and_true, beq_true, beq_false, Bool.true_beq, Bool.false_beq, BEq.rfl, Int.reduceEq, Int.reduceLT, Int.reduceLE, Nat.reduceEqDiff, decide_true, decide_false, Bool.not_true, Bool.not_false, Bool.and_true, Bool.true_and, Bool.and_false, Bool.false_and, Bool.or_true, Bool.true_or, Bool.or_false, Bool.false_or, Bool.not_not, hll, h1, h2, h3]))
    refine G.loop1 (σ := Nat × Value) (fun z => i64 z.1) (fun z => sl tCellE z.2 (putsC q.c (s.r.c.take z.1)) :: own x20 [z.2, .slice k'.f.a k'.f.n k'.f.c] :: own x12 [.slice k.c.a k.c.n k.c.c, .slice k.f.a k.f.n k.f.c] :: sl intE (.slice k'.f.a k'.f.n k'.f.c) q.f :: sl tCellE (.slice k.c.a k.c.n k.c.c) s.r.c :: sl intE (.slice k.f.a k.f.n k.f.c) s.r.f ::
      own b [i64 s.most, v] :: sl tLevelE v (rks (us' ++ [(k', q)]) ++ [k]) :: ob RUpR b us' :: M) (fun z => z.1 ≤ s.r.c.length ∧ Cells z.2 [z.2]) (fun z => s.r.c.length - z.1) (0, .slice k'.c.a k'.c.n k'.c.c) rfl ?_ ⟨by simp, cells_slice⟩ ?_
    · funext F
      refine G_of_stars ?_
      show star _ (star _ (star _ (star _ (star _ (star _ (star _ (star _ (star _ _)))))))) = star _ (star _ (star _ (star _ (star _ (star _ (star _ (star _ (star _ _))))))))
      simp only [List.take_zero, putsC_nil]
      ac_rfl
    · rintro ⟨j, u⟩ ⟨hj, hu2⟩ J hJ
      simp only at hj hu2 hJ ⊢
      try simp (maxSteps := 2000000) only [↓RG, RP, true_and, and_true, beq_true, beq_false, Bool.true_beq, Bool.false_beq, BEq.rfl, Int.reduceEq, Int.reduceLT, Int.reduceLE, Nat.reduceEqDiff, decide_true, decide_false, Bool.not_true, Bool.not_false, Bool.and_true, Bool.true_and, Bool.and_false, Bool.false_and, Bool.or_true, Bool.true_or, Bool.or_false, Bool.false_or, Bool.not_not]
      refine G.cond (fun h => ?_) (fun h => ?_)
      · have hk2 : j < s.r.c.length := by simpa using h
        have e := elem_of hk2
        have hle := putsC_le (cs := q.c) (l := s.r.c.take j)
        have hle2 : (s.r.c.take j).length ≤ s.r.c.length := by rw [List.length_take]; omega
        have t := putsC_take (cs := q.c) hk2
        repeat' (first | (with_reducible refine G.joini0 ?_) | (with_reducible refine G.joini1 ?_) | (with_reducible refine G.drew ?_) | (simp (maxSteps := 2000000) only [↓RG, RP, true_and, and_true, beq_true, beq_false, Bool.true_beq, Bool.false_beq, BEq.rfl, Int.reduceEq, Int.reduceLT, Int.reduceLE, Nat.reduceEqDiff, decide_true, decide_false, Bool.not_true, Bool.not_false, Bool.and_true, Bool.true_and, Bool.and_false, Bool.false_and, Bool.or_true, Bool.true_or, Bool.or_false, Bool.false_or, Bool.not_not]))
        refine s_ref7_Put (cs := putsC q.c (s.r.c.take j)) (by omega) fun u2 hu3 => ?_
        repeat' (first | (with_reducible refine G.joini0 ?_) | (with_reducible refine G.joini1 ?_) | (with_reducible refine G.drew ?_) | (simp (maxSteps := 2000000) only [↓RG, RP, true_and, and_true, beq_true, beq_false, Bool.true_beq, Bool.false_beq, BEq.rfl, Int.reduceEq, Int.reduceLT, Int.reduceLE, Nat.reduceEqDiff, decide_true, decide_false, Bool.not_true, Bool.not_false, Bool.and_true, Bool.true_and, Bool.and_false, Bool.false_and, Bool.or_true, Bool.true_or, Bool.or_false, Bool.false_or, Bool.not_not]))
        rw [wsucc (by omega)]
        have h := hJ (j + 1, u2) ⟨hk2, hu3⟩ (by simp; omega)
        simp only [t] at h
        exact h.sub
      · have ht : s.r.c.take j = s.r.c := List.take_of_length_le (by simpa using h)
        rw [ht]
        repeat' (first | (with_reducible refine G.joini0 ?_) | (with_reducible refine G.joini1 ?_) | (with_reducible refine G.drew ?_) | (simp (maxSteps := 2000000) only [↓RG, RP, true_and, and_true, beq_true, beq_false, Bool.true_beq, Bool.false_beq, BEq.rfl, Int.reduceEq, Int.reduceLT, Int.reduceLE, Nat.reduceEqDiff, decide_true, decide_false, Bool.not_true, Bool.not_false, Bool.and_true, Bool.true_and, Bool.and_false, Bool.false_and, Bool.or_true, Bool.true_or, Bool.or_false, Bool.false_or, Bool.not_not]))
        refine G.nilsl intE ?_
        refine G.append (ys := q.f) (by simp; omega) (by simp only [maxLen, List.length_nil]; omega) fun u1 hu1 => ?_
        rw [List.nil_append]
        repeat' (first | (with_reducible refine G.joini0 ?_) | (with_reducible refine G.joini1 ?_) | (with_reducible refine G.drew ?_) | (simp (maxSteps := 2000000) only [↓RG, RP, true_and, and_true, beq_true, beq_false, Bool.true_beq, Bool.false_beq, BEq.rfl, Int.reduceEq, Int.reduceLT, Int.reduceLE, Nat.reduceEqDiff, decide_true, decide_false, Bool.not_true, Bool.not_false, Bool.and_true, Bool.true_and, Bool.and_false, Bool.false_and, Bool.or_true, Bool.true_or, Bool.or_false, Bool.false_or, Bool.not_not]))
        refine G.append (xs := q.f) (ys := s.r.f) (by omega) (by simp only [maxLen]; omega) fun u3 hu3 => ?_
        repeat' (first | (with_reducible refine G.joini0 ?_) | (with_reducible refine G.joini1 ?_) | (with_reducible refine G.drew ?_) | (simp (maxSteps := 2000000) only [↓RG, RP, true_and, and_true, beq_true, beq_false, Bool.true_beq, Bool.false_beq, BEq.rfl, Int.reduceEq, Int.reduceLT, Int.reduceLE, Nat.reduceEqDiff, decide_true, decide_false, Bool.not_true, Bool.not_false, Bool.and_true, Bool.true_and, Bool.and_false, Bool.false_and, Bool.or_true, Bool.true_or, Bool.or_false, Bool.false_or, Bool.not_not, hll, h1, h2, h3]))
        refine G.take (by rw [hll]; omega) fun u4 hu4 => ?_
        have e2 : (rks (us' ++ [(k', q)]) ++ [k]).take (us'.length + 1) = rks us' ++ [k'] := by
          rw [List.take_append_of_le_length (by simp), List.take_of_length_le (by simp)]; simp
        rw [e2]
        refine G.slv (u := u) fun a1 n1 c1 eu1 => ?_
        subst eu1
        refine G.slv (u := u3) fun a2 n2 c2 eu2 => ?_
        subst eu2
        repeat' (first | (with_reducible refine G.joini0 ?_) | (with_reducible refine G.joini1 ?_) | (with_reducible refine G.drew ?_) | (simp (maxSteps := 2000000) only [↓RG, RP, true_and, and_true, beq_true, beq_false, Bool.true_beq, Bool.false_beq, BEq.rfl, Int.reduceEq, Int.reduceLT, Int.reduceLE, Nat.reduceEqDiff, decide_true, decide_false, Bool.not_true, Bool.not_false, Bool.and_true, Bool.true_and, Bool.and_false, Bool.false_and, Bool.or_true, Bool.true_or, Bool.or_false, Bool.false_or, Bool.not_not, h3]))
        have es : (rks us' ++ [k']).set us'.length ⟨⟨a1, n1, c1⟩, ⟨a2, n2, c2⟩⟩ = rks us' ++ [⟨⟨a1, n1, c1⟩, ⟨a2, n2, c2⟩⟩] := by simp
        refine RLevR_close ⟨⟨a1, n1, c1⟩, ⟨a2, n2, c2⟩⟩ ⟨putsC q.c s.r.c, q.f ++ s.r.f⟩ ?_
        refine RLevelsR_close b ⟨s.most, ⟨putsC q.c s.r.c, q.f ++ s.r.f⟩, up⟩ us' ⟨⟨a1, n1, c1⟩, ⟨a2, n2, c2⟩⟩ es ⟨hu4, hs.kept e, hu'⟩ ?_
        exact hK.sub

theorem s_ref7_Levels_Whole [i : SelOb L RLevelsR b s C] (hf : s.frees.length ≤ 1000000) (hK : ∀ (y : Value × Value), Cells y.1 [y.1] ∧ Cells y.2 [y.2] → G w0 (sl tCellE y.1 s.cells :: sl intE y.2 s.frees :: L) (K (.agg #[y.1, y.2]))) : G w0 L (CP Try.prog Fn.ref7_Levels_Whole [ptr b 0] K) := by
  refine SelOb.roN2 (P := fun y : Value × Value => Cells y.1 [y.1] ∧ Cells y.2 [y.2]) (N1 := fun y => sl tCellE y.1 s.cells) (N2 := fun y => sl intE y.2 s.frees) (F' := fun y => K (.agg #[y.1, y.2])) (i := i) (fun M hK => ?_) hK
  refine C_ref7_Levels_Whole ?_
  unfold S_ref7_Levels_Whole
  refine G.new fun x1 => ?_
  refine s_ref7_Levels_Copy (b := b) (s := s) hf fun d => ?_
  refine G.loop0 (σ := LvS) (fun z => ob RLevelsR d z :: own x1 [.slice none 0 0, .slice none 0 0] :: ob RLevelsR b s :: M) (fun z => z.cells = s.cells ∧ z.frees.length ≤ 1000000) (fun z => z.up.length) s rfl ⟨rfl, hf⟩ ?_
  rintro z ⟨hz, hzf⟩ J hJ
  rw [RLevelsR_in]
  rintro v k us ⟨hv, hs, hu⟩
  have hul := rus_len hu
  have h6 := hs.six
  have hll : (rks us ++ [k]).length = z.up.length + 1 := by simp [hul]
  try simp (maxSteps := 2000000) only [↓RG, RP, true_and, and_true, beq_true, beq_false, Bool.true_beq, Bool.false_beq, BEq.rfl, Int.reduceEq, Int.reduceLT, Int.reduceLE, Nat.reduceEqDiff, decide_true, decide_false, Bool.not_true, Bool.not_false, Bool.and_true, Bool.true_and, Bool.and_false, Bool.false_and, Bool.or_true, Bool.true_or, Bool.or_false, Bool.false_or, Bool.not_not, hll]
  refine G.cond (fun h => ?_) (fun h => ?_)
  · have h1 : 1 ≤ z.up.length := by simp at h; omega
    obtain ⟨m, hm⟩ : ∃ m, z.up.length = m + 1 := ⟨z.up.length - 1, by omega⟩
    refine RLevelsR_close d z us k rfl ⟨hv, hs, hu⟩ ?_
    refine s_ref7_Levels_Keep (b := d) (s := z) hzf ?_
    exact hJ (lKeep z).1 ⟨by rw [lKeep_cells, hz], by rw [lKeep_frees]; exact hzf⟩ (by rw [lKeep_up hm, hm]; omega)
  · have h1 : z.up.length = 0 := by simp at h; omega
    have hzu : z.up = [] := List.eq_nil_of_length_eq_zero h1
    have hus : us = [] := List.eq_nil_of_length_eq_zero (by omega)
    subst hus
    have hzc : z.r.c = s.cells := by rw [← hz]; unfold LvS.cells; rw [hzu]; rfl
    have eK : Elem (rks [] ++ [k]) 0 k := ⟨rfl⟩
    refine G.take1 RLevR k ?_
    rw [RLevR_open]
    repeat' (first | (with_reducible refine G.joini0 ?_) | (with_reducible refine G.joini1 ?_) | (with_reducible refine G.drew ?_) | (simp (maxSteps := 2000000) only [↓RG, RP, true_and, and_true, beq_true, beq_false, Bool.true_beq, Bool.false_beq, BEq.rfl, Int.reduceEq, Int.reduceLT, Int.reduceLE, Nat.reduceEqDiff, decide_true, decide_false, Bool.not_true, Bool.not_false, Bool.and_true, Bool.true_and, Bool.and_false, Bool.false_and, Bool.or_true, Bool.true_or, Bool.or_false, Bool.false_or, Bool.not_not]))
    refine G.new fun x16 => ?_
    repeat' (first | (with_reducible refine G.joini0 ?_) | (with_reducible refine G.joini1 ?_) | (with_reducible refine G.drew ?_) | (simp (maxSteps := 2000000) only [↓RG, RP, true_and, and_true, beq_true, beq_false, Bool.true_beq, Bool.false_beq, BEq.rfl, Int.reduceEq, Int.reduceLT, Int.reduceLE, Nat.reduceEqDiff, decide_true, decide_false, Bool.not_true, Bool.not_false, Bool.and_true, Bool.true_and, Bool.and_false, Bool.false_and, Bool.or_true, Bool.true_or, Bool.or_false, Bool.false_or, Bool.not_not]))
    refine G.take1 RLevelsR b ?_
    rw [RLevelsR_open]
    rintro v2 l ⟨hv2, hs2, hl⟩
    have hll2 : (rks l).length = l.length := by simp
    have h5 := rl_len hl
    have h62 := hs2.six
    have hfl : (freesR (rlvs l)).length ≤ 1000000 := by rw [hl]; exact hf
    refine G.nilsl intE ?_
    refine G.sub (L' := sl intE (.slice none 0 0) [] :: own x16 [.slice k.c.a k.c.n k.c.c, .slice none 0 0] :: own x1 [.slice none 0 0, .slice none 0 0] :: sl tCellE (.slice k.c.a k.c.n k.c.c) z.r.c :: own b [i64 s.most, v2] :: sl tLevelE v2 (rks l) :: ob RUpR b l :: M) ?_
    refine G.loop1 (σ := Nat × Value) (fun z => i64 z.1) (fun q => sl intE q.2 (freesR ((rlvs l).take q.1)) :: own x16 [.slice k.c.a k.c.n k.c.c, q.2] :: own x1 [.slice none 0 0, .slice none 0 0] :: sl tCellE (.slice k.c.a k.c.n k.c.c) z.r.c :: own b [i64 s.most, v2] :: sl tLevelE v2 (rks l) :: ob RUpR b l :: M) (fun q => q.1 ≤ l.length ∧ Cells q.2 [q.2]) (fun q => l.length - q.1) (0, .slice none 0 0) rfl rfl ⟨by simp, cells_slice⟩ ?_
    · rintro ⟨j, u⟩ ⟨hj, hu2⟩ J2 hJ2
      simp only at hj hu2 hJ2 ⊢
      try simp (maxSteps := 2000000) only [↓RG, RP, true_and, and_true, beq_true, beq_false, Bool.true_beq, Bool.false_beq, BEq.rfl, Int.reduceEq, Int.reduceLT, Int.reduceLE, Nat.reduceEqDiff, decide_true, decide_false, Bool.not_true, Bool.not_false, Bool.and_true, Bool.true_and, Bool.and_false, Bool.false_and, Bool.or_true, Bool.true_or, Bool.or_false, Bool.false_or, Bool.not_not, hll2]
      refine G.cond (fun h => ?_) (fun h => ?_)
      · have hk2 : j < l.length := by simpa using h
        obtain ⟨k2, hx, e, hk3, e2⟩ := rat_k hk2
        have t1 := freesR_take hk3
        have t2 := freesR_take_le hk3
        rw [e2] at t1 t2
        generalize l[j].2 = r at hx t1 t2
        refine G.take1 RUpR b ?_
        rw [RUpR_at hx, RLevR_open]
        repeat' (first | (with_reducible refine G.joini0 ?_) | (with_reducible refine G.joini1 ?_) | (with_reducible refine G.drew ?_) | (simp (maxSteps := 2000000) only [↓RG, RP, true_and, and_true, beq_true, beq_false, Bool.true_beq, Bool.false_beq, BEq.rfl, Int.reduceEq, Int.reduceLT, Int.reduceLE, Nat.reduceEqDiff, decide_true, decide_false, Bool.not_true, Bool.not_false, Bool.and_true, Bool.true_and, Bool.and_false, Bool.false_and, Bool.or_true, Bool.true_or, Bool.or_false, Bool.false_or, Bool.not_not]))
        refine G.append (xs := freesR (List.take j (rlvs l))) (ys := r.f) (by omega) (by simp only [maxLen]; omega) fun u2 hu3 => ?_
        repeat' (first | (with_reducible refine G.joini0 ?_) | (with_reducible refine G.joini1 ?_) | (with_reducible refine G.drew ?_) | (simp (maxSteps := 2000000) only [↓RG, RP, true_and, and_true, beq_true, beq_false, Bool.true_beq, Bool.false_beq, BEq.rfl, Int.reduceEq, Int.reduceLT, Int.reduceLE, Nat.reduceEqDiff, decide_true, decide_false, Bool.not_true, Bool.not_false, Bool.and_true, Bool.true_and, Bool.and_false, Bool.false_and, Bool.or_true, Bool.true_or, Bool.or_false, Bool.false_or, Bool.not_not]))
        rw [wsucc (by omega)]
        refine RLevR_close k2 r ?_
        refine RUpR_back (b := b) hx ?_
        have h := hJ2 (j + 1, u2) ⟨hk2, hu3⟩ (by simp; omega)
        simp only [t1] at h
        exact h.sub
      · have ht : (rlvs l).take j = rlvs l := List.take_of_length_le (by simpa using h)
        rw [ht]
        repeat' (first | (with_reducible refine G.joini0 ?_) | (with_reducible refine G.joini1 ?_) | (with_reducible refine G.drew ?_) | (simp (maxSteps := 2000000) only [↓RG, RP, true_and, and_true, beq_true, beq_false, Bool.true_beq, Bool.false_beq, BEq.rfl, Int.reduceEq, Int.reduceLT, Int.reduceLE, Nat.reduceEqDiff, decide_true, decide_false, Bool.not_true, Bool.not_false, Bool.and_true, Bool.true_and, Bool.and_false, Bool.false_and, Bool.or_true, Bool.true_or, Bool.or_false, Bool.false_or, Bool.not_not]))
        have h := hK (.slice k.c.a k.c.n k.c.c, u) ⟨cells_slice, hu2⟩
        rw [G_rot3, RLevelsR_open] at h
        have h := h v2 l ⟨hv2, hs2, hl⟩
        have e9 : s.frees = freesR (rlvs l) := by rw [hl]; rfl
        rw [← hzc, e9] at h
        exact h.sub

end
end Go.Proofs.Ytlgdcfocnaifbaa.S
