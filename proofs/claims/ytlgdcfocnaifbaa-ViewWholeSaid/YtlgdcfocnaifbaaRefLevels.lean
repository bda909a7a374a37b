/-
  CHAPTER 9: contracts of the reference's levels.
-/
import Derived.Test.YtlgdcfocnaifbaaLevelsC
namespace Go.Proofs.Ytlgdcfocnaifbaa.S
open Go Go.Proofs
set_option linter.unusedVariables false
set_option linter.unusedSimpArgs false

abbrev nilL : TLevel := ⟨⟨none, 0, 0⟩, ⟨none, 0, 0⟩⟩
/-- a level's two slices -/
def RLevR (k : TLevel) (r : Lv) : Asn := star (sl tCellE (.slice k.c.a k.c.n k.c.c) r.c) (sl intE (.slice k.f.a k.f.n k.f.c) r.f)
def RUpR (b : Nat) (l : List (TLevel × Lv)) : Asn := stars (l.map fun x => ob RLevR x.1 x.2)
abbrev rks (l : List (TLevel × Lv)) : List TLevel := l.map (·.1)
abbrev rlvs (l : List (TLevel × Lv)) : List Lv := l.map (·.2)
def RLevelsR (b : Nat) (s : LvS) : Asn := exA fun v => exA fun (l : List (TLevel × Lv)) => star (pureA (Cells v [v] ∧ OkL s ∧ rlvs l = s.up.reverse ++ [s.r])) (star (star (own b [i64 s.most, v]) (sl tLevelE v (rks l))) (ob RUpR b l))

section
variable {w0 : Base} {L M : List Asn} {K : KV} {F : World → Prop} {C : Asn → List Asn} {b d i : Nat} {k : TLevel} {a x n : Int} {r : Lv} {s : LvS} {l us : List (TLevel × Lv)} {v : Value}

theorem rks_append {l l' : List (TLevel × Lv)} : rks (l ++ l') = rks l ++ rks l' := List.map_append
theorem rlvs_append {l l' : List (TLevel × Lv)} : rlvs (l ++ l') = rlvs l ++ rlvs l' := List.map_append

theorem G.slv {α : Type} {E : Enc α} {u : Value} {sz : Nat} {xs : List α} [r : Rd w0 L u E sz xs] (h : ∀ a n c, u = .slice a n c → G w0 L F) : G w0 L F := fun w H => by
  obtain ⟨oa, cap, e, _⟩ := r.rd w H
  exact h _ _ _ e w H

theorem RLevR_open : G w0 (ob RLevR k r :: M) F = G w0 (sl tCellE (.slice k.c.a k.c.n k.c.c) r.c :: sl intE (.slice k.f.a k.f.n k.f.c) r.f :: M) F := by
  rw [ob_eq, RLevR, G_star]
theorem RLevR_close (k : TLevel) (r : Lv) [PickAll [sl tCellE (.slice k.c.a k.c.n k.c.c) r.c, sl intE (.slice k.f.a k.f.n k.f.c) r.f] L M] (H : G w0 (ob RLevR k r :: M) F) : G w0 L F :=
  G.pickAll (As := [sl tCellE (.slice k.c.a k.c.n k.c.c) r.c, sl intE (.slice k.f.a k.f.n k.f.c) r.f]) (by rw [RLevR_open] at H; exact H)
theorem RUpR_key (d : Nat) : ob RUpR b l = ob RUpR d l := by rw [ob_eq, ob_eq]; rfl
theorem RUpR_at {i : Nat} {k : TLevel} {r : Lv} (h : l[i]? = some (k, r)) : G w0 (ob RUpR b l :: M) F = G w0 (ob RLevR k r :: ob RUpR b (l.eraseIdx i) :: M) F := G_of_stars (by
  show star (ob RUpR b l) (stars M) = star (ob RLevR k r) (star (ob RUpR b (l.eraseIdx i)) (stars M))
  rw [ob_eq RUpR, ob_eq RUpR, RUpR, big_at _ h, ← star_as]; rfl)
theorem RUpR_snoc : G w0 (ob RUpR b (us ++ [(k, r)]) :: M) F = G w0 (ob RLevR k r :: ob RUpR b us :: M) F := by
  rw [RUpR_at (i := us.length) (k := k) (r := r) (by simp)]
  congr 3
  simp [List.eraseIdx_append_of_length_le]
theorem RUpR_push (b : Nat) (us : List (TLevel × Lv)) (k : TLevel) (r : Lv) [PickAll [ob RLevR k r, ob RUpR b us] L M] (H : G w0 (ob RUpR b (us ++ [(k, r)]) :: M) F) : G w0 L F :=
  G.pickAll (As := [ob RLevR k r, ob RUpR b us]) (by rw [RUpR_snoc] at H; exact H)
theorem RUpR_back {i : Nat} {k : TLevel} {r : Lv} (h : l[i]? = some (k, r)) [PickAll [ob RLevR k r, ob RUpR b (l.eraseIdx i)] L M] (H : G w0 (ob RUpR b l :: M) F) : G w0 L F :=
  G.pickAll (As := [ob RLevR k r, ob RUpR b (l.eraseIdx i)]) (by rw [RUpR_at h] at H; exact H)
theorem RUpR_none {As : List Asn} (H : G w0 (As ++ ob RUpR b [] :: M) F) : G w0 (As ++ M) F := by
  rw [G_of_stars (L' := As ++ M)] at H
  · exact H
  · rw [stars_append, stars_append]
    show star _ (star (ob RUpR b []) _) = _
    rw [ob_eq RUpR]
    show star _ (star emp _) = _
    rw [star_emp]

theorem RLevelsR_open : G w0 (ob RLevelsR b s :: M) F = ∀ v l, (Cells v [v] ∧ OkL s ∧ rlvs l = s.up.reverse ++ [s.r]) → G w0 (own b [i64 s.most, v] :: sl tLevelE v (rks l) :: ob RUpR b l :: M) F := by
  rw [ob_eq, RLevelsR]
  simp only [G_ex, G_star, G_pure]
theorem RLevelsR_in : G w0 (ob RLevelsR b s :: M) F = ∀ v k us, (Cells v [v] ∧ OkL s ∧ rlvs us = s.up.reverse) → G w0 (own b [i64 s.most, v] :: sl tLevelE v (rks us ++ [k]) :: ob RLevR k s.r :: ob RUpR b us :: M) F := by
  rw [RLevelsR_open]
  have e : ∀ v us k, G w0 (own b [i64 s.most, v] :: sl tLevelE v (rks (us ++ [(k, s.r)])) :: ob RUpR b (us ++ [(k, s.r)]) :: M) F = G w0 (own b [i64 s.most, v] :: sl tLevelE v (rks us ++ [k]) :: ob RLevR k s.r :: ob RUpR b us :: M) F := fun v us k => by
    rw [G_rot3, RUpR_snoc, rks_append]
    apply G_of_stars
    show star _ (star _ (star _ (star _ _))) = star _ (star _ (star _ (star _ _)))
    rw [star_lc (ob RUpR b us), star_lc (ob RUpR b us), star_lc (ob RLevR k s.r), star_lc (ob RLevR k s.r)]
    rfl
  apply propext
  constructor
  · rintro H v k us ⟨h1, h2, h3⟩
    rw [← e]
    exact H v (us ++ [(k, s.r)]) ⟨h1, h2, by rw [rlvs_append, h3]; rfl⟩
  · rintro H v l ⟨h1, h2, h3⟩
    obtain ⟨us, y, hl, h4, h5⟩ := List.map_eq_append_iff.1 h3
    obtain ⟨z, zs, rfl, h6, h7⟩ := List.map_eq_cons_iff.1 h5
    have : zs = [] := by simpa using h7
    subst this
    obtain ⟨k, q⟩ := z
    simp only at h6
    subst h6
    subst hl
    rw [e]
    exact H v k us ⟨h1, h2, h4⟩
theorem RLevelsR_close {v : Value} {xs : List TLevel} (b : Nat) (s : LvS) (us : List (TLevel × Lv)) (k : TLevel) [PickAll [own b [i64 s.most, v], sl tLevelE v xs, ob RLevR k s.r, ob RUpR b us] L M] (hx : xs = rks us ++ [k]) (h : Cells v [v] ∧ OkL s ∧ rlvs us = s.up.reverse) (H : G w0 (ob RLevelsR b s :: M) F) : G w0 L F :=
  G.pickAll (As := [own b [i64 s.most, v], sl tLevelE v xs, ob RLevR k s.r, ob RUpR b us]) (by rw [RLevelsR_in] at H; subst hx; exact H v k us h)

/-- what is always true of them -/
theorem G.okRL [i : SelOb L RLevelsR b s C] (h : OkL s → G w0 L F) : G w0 L F := by
  by_cases hw : OkL s
  · exact h hw
  · refine i.ro (F' := fun _ => True) (fun M _ => ?_) (fun _ _ => trivial)
    rw [RLevelsR_open]
    exact fun v l hv => absurd hv.2.1 hw

theorem rus_len {up : List Lv} (h : rlvs us = up.reverse) : us.length = up.length := by
  have := congrArg List.length h
  simpa using this
theorem rl_len (hl : rlvs l = s.up.reverse ++ [s.r]) : l.length = s.up.length + 1 := by
  have := congrArg List.length hl
  simpa using this
theorem OkL.rtotal (hs : OkL s) (hl : rlvs l = s.up.reverse ++ [s.r]) : totalC (rlvs l) = totalC (s.r :: s.up) := by
  rw [hl, totalC_append, totalC_reverse, totalC_cons, totalC_cons]; simp [totalC]; omega
theorem rat_k {i : Nat} (hk : i < l.length) : ∃ k, l[i]? = some (k, l[i].2) ∧ Elem (rks l) i k ∧ ∃ h : i < (rlvs l).length, (rlvs l)[i] = l[i].2 :=
  ⟨l[i].1, List.getElem?_eq_getElem hk, ⟨by simp [hk]⟩, by simpa using hk, by simp⟩
theorem rup_cons {q : Lv} {up : List Lv} (h : rlvs us = (q :: up).reverse) : ∃ us' k', us = us' ++ [(k', q)] ∧ rlvs us' = up.reverse := by
  rw [List.reverse_cons] at h
  obtain ⟨us', y, hl, h4, h5⟩ := List.map_eq_append_iff.1 h
  obtain ⟨z, zs, rfl, h6, h7⟩ := List.map_eq_cons_iff.1 h5
  have : zs = [] := by simpa using h7
  subst this
  obtain ⟨k, q'⟩ := z
  simp only at h6
  subst h6
  exact ⟨us', k, hl, h4⟩

theorem newRL {n : Int} {K' : KV} (hv : Cells v [v]) (hK : ∀ b, G w0 (ob RLevelsR b ⟨held n 0 96, ⟨[], []⟩, []⟩ :: L) (K' (ptr b 0))) : G w0 (sl tLevelE v [nilL] :: L) (boxW (.agg #[i64 (held n 0 96), v]) K') := by
  refine G.nilsl tCellE ?_
  refine G.nilsl intE ?_
  refine G.box (cs := [i64 (held n 0 96), v]) fun b => ?_
  refine RLevR_close nilL ⟨[], []⟩ ?_
  have h := hK b
  rw [RLevelsR_in] at h
  have h2 := h v nilL [] ⟨hv, OkL.new, rfl⟩
  have h3 := RUpR_none (b := b) (As := [own b [i64 (held n 0 96), v], sl tLevelE v [nilL], ob RLevR nilL ⟨[], []⟩]) h2
  simp only [List.cons_append, List.nil_append] at h3
  exact h3.sub

theorem s_ref7_NewLevels {n : Int} (hK : ∀ b, G w0 (ob RLevelsR b ⟨held n 0 96, ⟨[], []⟩, []⟩ :: L) (K (ptr b 0))) : G w0 L (CP Try.prog Fn.ref7_NewLevels [i64 n] K) := by
  refine C_ref7_NewLevels ?_
  unfold S_ref7_NewLevels
  refine G.drew (G.andP ?_ ?_)
  · refine s_ref1_Held ?_
    try simp (maxSteps := 2000000) only [↓RG, RP, true_and, and_true, beq_true, beq_false, Bool.true_beq, Bool.false_beq, BEq.rfl, Int.reduceEq, Int.reduceLT, Int.reduceLE, Nat.reduceEqDiff, decide_true, decide_false, Bool.not_true, Bool.not_false, Bool.and_true, Bool.true_and, Bool.and_false, Bool.false_and, Bool.or_true, Bool.true_or, Bool.or_false, Bool.false_or, Bool.not_not]
    refine G.make (n := 1) tLevelE nilL rfl (by simp [maxLen]) (by omega) fun v hv => ?_
    repeat' (first | (with_reducible refine G.joini0 ?_) | (with_reducible refine G.joini1 ?_) | (with_reducible refine G.drew ?_) | (simp (maxSteps := 2000000) only [↓RG, RP, true_and, and_true, beq_true, beq_false, Bool.true_beq, Bool.false_beq, BEq.rfl, Int.reduceEq, Int.reduceLT, Int.reduceLE, Nat.reduceEqDiff, decide_true, decide_false, Bool.not_true, Bool.not_false, Bool.and_true, Bool.true_and, Bool.and_false, Bool.false_and, Bool.or_true, Bool.true_or, Bool.or_false, Bool.false_or, Bool.not_not]))
    refine newRL hv fun b => ?_
    try simp (maxSteps := 2000000) only [↓RG, RP, true_and, and_true, beq_true, beq_false, Bool.true_beq, Bool.false_beq, BEq.rfl, Int.reduceEq, Int.reduceLT, Int.reduceLE, Nat.reduceEqDiff, decide_true, decide_false, Bool.not_true, Bool.not_false, Bool.and_true, Bool.true_and, Bool.and_false, Bool.false_and, Bool.or_true, Bool.true_or, Bool.or_false, Bool.false_or, Bool.not_not]
    exact hK b
  · refine G.make (n := 1) tLevelE nilL rfl (by simp [maxLen]) (by omega) fun v hv => ?_
    repeat' (first | (with_reducible refine G.joini0 ?_) | (with_reducible refine G.joini1 ?_) | (with_reducible refine G.drew ?_) | (simp (maxSteps := 2000000) only [↓RG, RP, true_and, and_true, beq_true, beq_false, Bool.true_beq, Bool.false_beq, BEq.rfl, Int.reduceEq, Int.reduceLT, Int.reduceLE, Nat.reduceEqDiff, decide_true, decide_false, Bool.not_true, Bool.not_false, Bool.and_true, Bool.true_and, Bool.and_false, Bool.false_and, Bool.or_true, Bool.true_or, Bool.or_false, Bool.false_or, Bool.not_not]))
    refine s_ref1_Held ?_
    repeat' (first | (with_reducible refine G.joini0 ?_) | (with_reducible refine G.joini1 ?_) | (with_reducible refine G.drew ?_) | (simp (maxSteps := 2000000) only [↓RG, RP, true_and, and_true, beq_true, beq_false, Bool.true_beq, Bool.false_beq, BEq.rfl, Int.reduceEq, Int.reduceLT, Int.reduceLE, Nat.reduceEqDiff, decide_true, decide_false, Bool.not_true, Bool.not_false, Bool.and_true, Bool.true_and, Bool.and_false, Bool.false_and, Bool.or_true, Bool.true_or, Bool.or_false, Bool.false_or, Bool.not_not]))
    refine newRL hv fun b => ?_
    try simp (maxSteps := 2000000) only [↓RG, RP, true_and, and_true, beq_true, beq_false, Bool.true_beq, Bool.false_beq, BEq.rfl, Int.reduceEq, Int.reduceLT, Int.reduceLE, Nat.reduceEqDiff, decide_true, decide_false, Bool.not_true, Bool.not_false, Bool.and_true, Bool.true_and, Bool.and_false, Bool.false_and, Bool.or_true, Bool.true_or, Bool.or_false, Bool.false_or, Bool.not_not]
    exact hK b

theorem s_ref7_Levels_Open [i : SelOb L RLevelsR b s C] (hK : G w0 (C (ob RLevelsR b (lOpen s).1)) (K (i64 (lOpen s).2))) : G w0 L (CP Try.prog Fn.ref7_Levels_Open [ptr b 0] K) := by
  refine i.use (fun M hK => ?_) hK
  rw [RLevelsR_in]
  rintro v k us ⟨hv, hs, hu⟩
  have hul := rus_len hu
  have h6' := hs.six
  have hll : (rks us ++ [k]).length = s.up.length + 1 := by simp [hul]
  refine C_ref7_Levels_Open ?_
  unfold S_ref7_Levels_Open
  unfold lOpen at hK
  by_cases h6 : 6 ≤ s.up.length + 1
  · rw [if_pos h6, RLevelsR_in] at hK
    have h7 : (6 : Int) ≤ ((s.up.length + 1 : Nat) : Int) := by omega
    try simp (maxSteps := 2000000) only [↓RG, RP, true_and, and_true, beq_true, beq_false, Bool.true_beq, Bool.false_beq, BEq.rfl, Int.reduceEq, Int.reduceLT, Int.reduceLE, Nat.reduceEqDiff, decide_true, decide_false, Bool.not_true, Bool.not_false, Bool.and_true, Bool.true_and, Bool.and_false, Bool.false_and, Bool.or_true, Bool.true_or, Bool.or_false, Bool.false_or, Bool.not_not, hll, h7]
    exact hK v k us ⟨hv, hs, hu⟩
  · rw [if_neg h6] at hK
    have h7 : ¬ (6 : Int) ≤ ((s.up.length + 1 : Nat) : Int) := by omega
    repeat' (first | (with_reducible refine G.joini0 ?_) | (with_reducible refine G.joini1 ?_) | (with_reducible refine G.drew ?_) | (simp (maxSteps := 2000000) only [↓RG, RP, true_and, and_true, beq_true, beq_false, Bool.true_beq, Bool.false_beq, BEq.rfl, Int.reduceEq, Int.reduceLT, Int.reduceLE, Nat.reduceEqDiff, decide_true, decide_false, Bool.not_true, Bool.not_false, Bool.and_true, Bool.true_and, Bool.and_false, Bool.false_and, Bool.or_true, Bool.true_or, Bool.or_false, Bool.false_or, Bool.not_not, hll, h7]))
    refine G.append1 (E := tLevelE) (a := nilL) rfl rfl (by decide) (by rw [hll]; omega) (by rw [hll]; simp only [maxLen]; omega) fun u2 hu3 => ?_
    repeat' (first | (with_reducible refine G.joini0 ?_) | (with_reducible refine G.joini1 ?_) | (with_reducible refine G.drew ?_) | (simp (maxSteps := 2000000) only [↓RG, RP, true_and, and_true, beq_true, beq_false, Bool.true_beq, Bool.false_beq, BEq.rfl, Int.reduceEq, Int.reduceLT, Int.reduceLE, Nat.reduceEqDiff, decide_true, decide_false, Bool.not_true, Bool.not_false, Bool.and_true, Bool.true_and, Bool.and_false, Bool.false_and, Bool.or_true, Bool.true_or, Bool.or_false, Bool.false_or, Bool.not_not]))
    refine G.nilsl tCellE ?_
    refine G.nilsl intE ?_
    refine RLevR_close nilL ⟨[], []⟩ ?_
    refine RUpR_push b us k s.r ?_
    refine RLevelsR_close b ⟨s.most, ⟨[], []⟩, s.r :: s.up⟩ (us ++ [(k, s.r)]) nilL (show rks us ++ [k] ++ [nilL] = rks (us ++ [(k, s.r)]) ++ [nilL] by simp) ⟨hu3, hs.opened h6, by simp [hu]⟩ ?_
    exact hK.sub

theorem s_ref7_Levels_Drop [i : SelOb L RLevelsR b s C] (hK : G w0 (C (ob RLevelsR b (lDrop s).1)) (K (i64 (lDrop s).2))) : G w0 L (CP Try.prog Fn.ref7_Levels_Drop [ptr b 0] K) := by
  refine i.use (fun M hK => ?_) hK
  rw [RLevelsR_in]
  rintro v k us ⟨hv, hs, hu⟩
  have hul := rus_len hu
  have h6 := hs.six
  have hll : (rks us ++ [k]).length = s.up.length + 1 := by simp [hul]
  refine C_ref7_Levels_Drop ?_
  unfold S_ref7_Levels_Drop
  unfold lDrop at hK
  cases e : s.up with
  | nil =>
    rw [e] at hK hll
    have h1 : (([] : List Lv).length + 1 : Nat) = 1 := rfl
    have h2 : ((1 : Nat) : Int) = 1 := rfl
    try simp (maxSteps := 2000000) only [↓RG, RP, true_and, and_true, beq_true, beq_false, Bool.true_beq, Bool.false_beq, BEq.rfl, Int.reduceEq, Int.reduceLT, Int.reduceLE, Nat.reduceEqDiff, decide_true, decide_false, Bool.not_true, Bool.not_false, Bool.and_true, Bool.true_and, Bool.and_false, Bool.false_and, Bool.or_true, Bool.true_or, Bool.or_false, Bool.false_or, Bool.not_not, hll, h1, h2]
    refine RLevelsR_close b s us k rfl ⟨hv, hs, hu⟩ ?_
    exact hK
  | cons q up =>
    rw [e] at hK hu hll hul
    obtain ⟨us', k', rfl, hu'⟩ := rup_cons hu
    simp at hul
    have h6 : up.length + 1 < 6 := by have := hs.six; rw [e] at this; simpa using this
    have hl2 : (q :: up).length + 1 = up.length + 2 := by simp
    have h1 : ¬ (((up.length + 2 : Nat) : Int) = 1) := by omega
    have h2 : IntKind.wrap .i64 (((up.length + 2 : Nat) : Int) - 1) = ((up.length + 1 : Nat) : Int) := by rw [wi64 (by omega) (by omega)]; omega
    repeat' (first | (with_reducible refine G.joini0 ?_) | (with_reducible refine G.joini1 ?_) | (with_reducible refine G.drew ?_) | (simp (maxSteps := 2000000) only [↓RG, RP, true_and, and_true, beq_true, beq_false, Bool.true_beq, Bool.false_beq, BEq.rfl, Int.reduceEq, Int.reduceLT, Int.reduceLE, Nat.reduceEqDiff, decide_true, decide_false, Bool.not_true, Bool.not_false, Bool.and_true, Bool.true_and, Bool.and_false, Bool.false_and, Bool.or_true, Bool.true_or, Bool.or_false, Bool.false_or, Bool.not_not, hll, hl2, h1, h2]))
    refine G.take (by rw [hll]; simp) fun u hu2 => ?_
    have e2 : (rks (us' ++ [(k', q)]) ++ [k]).take (up.length + 1) = rks us' ++ [k'] := by
      rw [List.take_append_of_le_length (by simp; omega), List.take_of_length_le (by simp; omega)]; simp
    rw [e2]
    repeat' (first | (with_reducible refine G.joini0 ?_) | (with_reducible refine G.joini1 ?_) | (with_reducible refine G.drew ?_) | (simp (maxSteps := 2000000) only [↓RG, RP, true_and, and_true, beq_true, beq_false, Bool.true_beq, Bool.false_beq, BEq.rfl, Int.reduceEq, Int.reduceLT, Int.reduceLE, Nat.reduceEqDiff, decide_true, decide_false, Bool.not_true, Bool.not_false, Bool.and_true, Bool.true_and, Bool.and_false, Bool.false_and, Bool.or_true, Bool.true_or, Bool.or_false, Bool.false_or, Bool.not_not]))
    refine G.take1 RUpR b ?_
    rw [RUpR_snoc]
    refine RLevelsR_close b ⟨s.most, q, up⟩ us' k' rfl ⟨hu2, hs.dropped e, hu'⟩ ?_
    exact hK.sub

theorem s_RRoom_open {xs : List TLevel} (hx : xs = rks l) (hl : l.length ≤ 1000000) (h0 : 0 ≤ n) (h1 : n ≤ 96) (ht : totalC (rlvs l) ≤ 96) (hK : G w0 (own b [i64 n, v] :: sl tLevelE v xs :: ob RUpR b l :: M) (K (i64 (n - totalC (rlvs l))))) :
    G w0 (own b [i64 n, v] :: sl tLevelE v xs :: ob RUpR b l :: M) (CP Try.prog Fn.ref7_Levels_Room [ptr b 0] K) := by
  subst hx
  refine C_ref7_Levels_Room ?_
  unfold S_ref7_Levels_Room
  have hll : (rks l).length = l.length := by simp
  try simp (maxSteps := 2000000) only [↓RG, RP, true_and, and_true, beq_true, beq_false, Bool.true_beq, Bool.false_beq, BEq.rfl, Int.reduceEq, Int.reduceLT, Int.reduceLE, Nat.reduceEqDiff, decide_true, decide_false, Bool.not_true, Bool.not_false, Bool.and_true, Bool.true_and, Bool.and_false, Bool.false_and, Bool.or_true, Bool.true_or, Bool.or_false, Bool.false_or, Bool.not_not]
  refine G.loop2 (fun k : Nat => i64 (n - totalC ((rlvs l).take k))) (fun k : Nat => i64 k) (fun _ => own b [i64 n, v] :: sl tLevelE v (rks l) :: ob RUpR b l :: M) (fun k => k ≤ l.length) (fun k => l.length - k) 0 (by simp [totalC]) rfl rfl (by simp) ?_
  intro i hk J hJ
  try simp (maxSteps := 2000000) only [↓RG, RP, true_and, and_true, beq_true, beq_false, Bool.true_beq, Bool.false_beq, BEq.rfl, Int.reduceEq, Int.reduceLT, Int.reduceLE, Nat.reduceEqDiff, decide_true, decide_false, Bool.not_true, Bool.not_false, Bool.and_true, Bool.true_and, Bool.and_false, Bool.false_and, Bool.or_true, Bool.true_or, Bool.or_false, Bool.false_or, Bool.not_not, hll]
  refine G.cond (fun h => ?_) (fun h => ?_)
  · have hk2 : i < l.length := by simpa using h
    obtain ⟨k, hx, e, hk3, e2⟩ := rat_k hk2
    have t1 := totalC_take hk3
    have t2 := totalC_take_le (l := rlvs l) (k := i)
    have t3 := totalC_take_le (l := rlvs l) (k := i + 1)
    rw [e2] at t1
    generalize l[i].2 = r at hx t1
    try simp (maxSteps := 2000000) only [↓RG, RP, true_and, and_true, beq_true, beq_false, Bool.true_beq, Bool.false_beq, BEq.rfl, Int.reduceEq, Int.reduceLT, Int.reduceLE, Nat.reduceEqDiff, decide_true, decide_false, Bool.not_true, Bool.not_false, Bool.and_true, Bool.true_and, Bool.and_false, Bool.false_and, Bool.or_true, Bool.true_or, Bool.or_false, Bool.false_or, Bool.not_not]
    refine G.take1 RUpR b ?_
    rw [RUpR_at hx, RLevR_open]
    try simp (maxSteps := 2000000) only [↓RG, RP, true_and, and_true, beq_true, beq_false, Bool.true_beq, Bool.false_beq, BEq.rfl, Int.reduceEq, Int.reduceLT, Int.reduceLE, Nat.reduceEqDiff, decide_true, decide_false, Bool.not_true, Bool.not_false, Bool.and_true, Bool.true_and, Bool.and_false, Bool.false_and, Bool.or_true, Bool.true_or, Bool.or_false, Bool.false_or, Bool.not_not]
    rw [wsucc (by omega), wi64 (by omega) (by omega)]
    refine RLevR_close k r ?_
    refine RUpR_back (b := b) hx ?_
    have h := hJ (i + 1) hk2 (by omega)
    rw [t1] at h
    rw [show n - (totalC (List.take i (rlvs l)) : Int) - r.c.length = n - ((totalC (List.take i (rlvs l)) + r.c.length : Nat) : Int) by omega]
    exact h.sub
  · have : (rlvs l).take i = rlvs l := List.take_of_length_le (by simpa using h)
    rw [this]
    exact hK

theorem s_ref7_Levels_Room [i : SelOb L RLevelsR b s C] (hK : G w0 L (K (i64 s.room))) : G w0 L (CP Try.prog Fn.ref7_Levels_Room [ptr b 0] K) := by
  refine i.ro (fun M hK => ?_) hK
  rw [RLevelsR_open] at *
  rintro v l ⟨hv, hs, hl⟩
  have h1 := hs.lo
  have h2 := hs.hi
  have h3 := hs.len
  have h4 := hs.six
  have h5 := rl_len hl
  have ht := hs.rtotal hl
  refine s_RRoom_open rfl (by omega) (by omega) (by omega) (by omega) ?_
  rw [ht]
  exact hK v l ⟨hv, hs, hl⟩

theorem s_ref7_Levels_Put [i : SelOb L RLevelsR b s C] (hK : G w0 (C (ob RLevelsR b (if lErr s a = 0 then s.put a x else s))) (K (i64 (lErr s a)))) : G w0 L (CP Try.prog Fn.ref7_Levels_Put [ptr b 0, i64 a, u64 x] K) := by
  refine i.use (fun M hK => ?_) hK
  refine C_ref7_Levels_Put ?_
  unfold S_ref7_Levels_Put
  try simp (maxSteps := 2000000) only [fuse_and, fuse_or, fuse_step, fuse_pair, fuse_in, andP_true]
  try simp (maxSteps := 2000000) only [↓RG, RP, true_and, and_true, beq_true, beq_false, Bool.true_beq, Bool.false_beq, BEq.rfl, Int.reduceEq, Int.reduceLT, Int.reduceLE, Nat.reduceEqDiff, decide_true, decide_false, Bool.not_true, Bool.not_false, Bool.and_true, Bool.true_and, Bool.and_false, Bool.false_and, Bool.or_true, Bool.true_or, Bool.or_false, Bool.false_or, Bool.not_not]
  refine G.cond (fun h => ?_) (fun h => ?_)
  · have h0 : lErr s a = 2 := by unfold lErr; rw [if_neg]; rw [okAt_iff]; simp at h; omega
    rw [h0] at hK
    exact hK
  · have ha : okAt a = true := by rw [okAt_iff]; simp at h; omega
    rw [RLevelsR_in]
    rintro v k us ⟨hv, hs, hu⟩
    have hul := rus_len hu
    have h6 := hs.six
    have b1 := hs.lo
    have b2 := hs.hi
    have b3 := hs.len
    have b4 : s.r.c.length ≤ 96 := by rw [totalC_cons] at b3; omega
    have hll : (rks us ++ [k]).length = us.length + 1 := by simp
    have w1 : IntKind.wrap .i64 (((us.length + 1 : Nat) : Int) - 1) = (us.length : Int) := by rw [wi64 (by omega) (by omega)]; omega
    have e : Elem (rks us ++ [k]) us.length k := ⟨by simp⟩
    refine G.take1 RLevR k ?_
    rw [RLevR_open]
    try simp (maxSteps := 2000000) only [↓RG, RP, true_and, and_true, beq_true, beq_false, Bool.true_beq, Bool.false_beq, BEq.rfl, Int.reduceEq, Int.reduceLT, Int.reduceLE, Nat.reduceEqDiff, decide_true, decide_false, Bool.not_true, Bool.not_false, Bool.and_true, Bool.true_and, Bool.and_false, Bool.false_and, Bool.or_true, Bool.true_or, Bool.or_false, Bool.false_or, Bool.not_not, hll, w1]
    refine s_ref7_Place (cs := s.r.c) (by omega) ?_
    cases hi : idxC s.r.c a with
    | some j =>
      rw [idxI_some hi]
      have h0 : lErr s a = 0 := by unfold lErr; rw [if_pos ha, hi]; rfl
      have hj : ¬ ((j : Int) < 0) := by omega
      repeat' (first | (with_reducible refine G.joini0 ?_) | (with_reducible refine G.joini1 ?_) | (with_reducible refine G.drew ?_) | (simp (maxSteps := 2000000) only [↓RG, RP, true_and, and_true, beq_true, beq_false, Bool.true_beq, Bool.false_beq, BEq.rfl, Int.reduceEq, Int.reduceLT, Int.reduceLE, Nat.reduceEqDiff, decide_true, decide_false, Bool.not_true, Bool.not_false, Bool.and_true, Bool.true_and, Bool.and_false, Bool.false_and, Bool.or_true, Bool.true_or, Bool.or_false, Bool.false_or, Bool.not_not, hj]))
      refine s_ref7_Put (cs := s.r.c) (by omega) fun u hu2 => ?_
      refine G.slv (u := u) fun ua un uc eu => ?_
      subst eu
      repeat' (first | (with_reducible refine G.joini0 ?_) | (with_reducible refine G.joini1 ?_) | (with_reducible refine G.drew ?_) | (simp (maxSteps := 2000000) only [↓RG, RP, true_and, and_true, beq_true, beq_false, Bool.true_beq, Bool.false_beq, BEq.rfl, Int.reduceEq, Int.reduceLT, Int.reduceLE, Nat.reduceEqDiff, decide_true, decide_false, Bool.not_true, Bool.not_false, Bool.and_true, Bool.true_and, Bool.and_false, Bool.false_and, Bool.or_true, Bool.true_or, Bool.or_false, Bool.false_or, Bool.not_not]))
      have es : (rks us ++ [k]).set us.length ⟨⟨ua, un, uc⟩, k.f⟩ = rks us ++ [⟨⟨ua, un, uc⟩, k.f⟩] := by simp
      refine RLevR_close ⟨⟨ua, un, uc⟩, k.f⟩ ⟨putC s.r.c a x, s.r.f⟩ ?_
      refine RLevelsR_close b ⟨s.most, ⟨putC s.r.c a x, s.r.f⟩, s.up⟩ us ⟨⟨ua, un, uc⟩, k.f⟩ es ⟨hv, hs.put h0, hu⟩ ?_
      have hK2 : G w0 (ob RLevelsR b ⟨s.most, ⟨putC s.r.c a x, s.r.f⟩, s.up⟩ :: M) (K (i64 0)) := by rw [h0, if_pos rfl] at hK; exact hK
      exact hK2.sub
    | none =>
      rw [idxI_none hi]
      try simp (maxSteps := 2000000) only [↓RG, RP, true_and, and_true, beq_true, beq_false, Bool.true_beq, Bool.false_beq, BEq.rfl, Int.reduceEq, Int.reduceLT, Int.reduceLE, Nat.reduceEqDiff, decide_true, decide_false, Bool.not_true, Bool.not_false, Bool.and_true, Bool.true_and, Bool.and_false, Bool.false_and, Bool.or_true, Bool.true_or, Bool.or_false, Bool.false_or, Bool.not_not]
      refine RLevR_close k s.r ?_
      refine RUpR_push b us k s.r ?_
      refine G.take1 (slR tLevelE) v ?_
      refine G.take1 ownR b ?_
      have hl : rlvs (us ++ [(k, s.r)]) = s.up.reverse ++ [s.r] := by rw [rlvs_append, hu]; rfl
      have ht := hs.rtotal hl
      refine s_RRoom_open (l := us ++ [(k, s.r)]) (by rw [rks_append]; rfl) (by simp; omega) (by omega) (by omega) (by omega) ?_
      rw [ht]
      refine G.take1 RUpR b ?_
      rw [RUpR_snoc]
      by_cases hr : s.room = 0
      · have h0 : lErr s a = 5 := by unfold lErr; rw [if_pos ha, hi]; simp [hr]
        have hr2 : s.most - (totalC (s.r :: s.up) : Int) = 0 := hr
        rw [h0, if_neg (by decide)] at hK
        try simp (maxSteps := 2000000) only [↓RG, RP, true_and, and_true, beq_true, beq_false, Bool.true_beq, Bool.false_beq, BEq.rfl, Int.reduceEq, Int.reduceLT, Int.reduceLE, Nat.reduceEqDiff, decide_true, decide_false, Bool.not_true, Bool.not_false, Bool.and_true, Bool.true_and, Bool.and_false, Bool.false_and, Bool.or_true, Bool.true_or, Bool.or_false, Bool.false_or, Bool.not_not, hr2]
        refine RLevelsR_close b s us k rfl ⟨hv, hs, hu⟩ ?_
        exact hK
      · have h0 : lErr s a = 0 := by unfold lErr; rw [if_pos ha, hi]; simp [hr]
        have hr2 : ¬ s.most - (totalC (s.r :: s.up) : Int) ≤ 0 := by have := hs.room; unfold LvS.room at hr this; omega
        rw [RLevR_open]
        repeat' (first | (with_reducible refine G.joini0 ?_) | (with_reducible refine G.joini1 ?_) | (with_reducible refine G.drew ?_) | (simp (maxSteps := 2000000) only [↓RG, RP, true_and, and_true, beq_true, beq_false, Bool.true_beq, Bool.false_beq, BEq.rfl, Int.reduceEq, Int.reduceLT, Int.reduceLE, Nat.reduceEqDiff, decide_true, decide_false, Bool.not_true, Bool.not_false, Bool.and_true, Bool.true_and, Bool.and_false, Bool.false_and, Bool.or_true, Bool.true_or, Bool.or_false, Bool.false_or, Bool.not_not, hr2]))
        refine s_ref7_Put (cs := s.r.c) (by omega) fun u hu2 => ?_
        refine G.slv (u := u) fun ua un uc eu => ?_
        subst eu
        repeat' (first | (with_reducible refine G.joini0 ?_) | (with_reducible refine G.joini1 ?_) | (with_reducible refine G.drew ?_) | (simp (maxSteps := 2000000) only [↓RG, RP, true_and, and_true, beq_true, beq_false, Bool.true_beq, Bool.false_beq, BEq.rfl, Int.reduceEq, Int.reduceLT, Int.reduceLE, Nat.reduceEqDiff, decide_true, decide_false, Bool.not_true, Bool.not_false, Bool.and_true, Bool.true_and, Bool.and_false, Bool.false_and, Bool.or_true, Bool.true_or, Bool.or_false, Bool.false_or, Bool.not_not]))
        have es : (rks us ++ [k]).set us.length ⟨⟨ua, un, uc⟩, k.f⟩ = rks us ++ [⟨⟨ua, un, uc⟩, k.f⟩] := by simp
        refine RLevR_close ⟨⟨ua, un, uc⟩, k.f⟩ ⟨putC s.r.c a x, s.r.f⟩ ?_
        refine RLevelsR_close b ⟨s.most, ⟨putC s.r.c a x, s.r.f⟩, s.up⟩ us ⟨⟨ua, un, uc⟩, k.f⟩ es ⟨hv, hs.put h0, hu⟩ ?_
        have hK2 : G w0 (ob RLevelsR b ⟨s.most, ⟨putC s.r.c a x, s.r.f⟩, s.up⟩ :: M) (K (i64 0)) := by rw [h0, if_pos rfl] at hK; exact hK
        exact hK2.sub

theorem s_ref7_Levels_Free [i : SelOb L RLevelsR b s C] (hf : s.r.f.length ≤ 1000000) (hK : G w0 (C (ob RLevelsR b (s.free n))) (K (.tuple #[]))) : G w0 L (CP Try.prog Fn.ref7_Levels_Free [ptr b 0, i64 n] K) := by
  refine i.use (fun M hK => ?_) hK
  rw [RLevelsR_in]
  rintro v k us ⟨hv, hs, hu⟩
  have hul := rus_len hu
  have h6 := hs.six
  have hll : (rks us ++ [k]).length = us.length + 1 := by simp
  have w1 : IntKind.wrap .i64 (((us.length + 1 : Nat) : Int) - 1) = (us.length : Int) := by rw [wi64 (by omega) (by omega)]; omega
  have e : Elem (rks us ++ [k]) us.length k := ⟨by simp⟩
  refine C_ref7_Levels_Free ?_
  unfold S_ref7_Levels_Free
  refine G.take1 RLevR k ?_
  rw [RLevR_open]
  repeat' (first | (with_reducible refine G.joini0 ?_) | (with_reducible refine G.joini1 ?_) | (with_reducible refine G.drew ?_) | (simp (maxSteps := 2000000) only [↓RG, RP, true_and, and_true, beq_true, beq_false, Bool.true_beq, Bool.false_beq, BEq.rfl, Int.reduceEq, Int.reduceLT, Int.reduceLE, Nat.reduceEqDiff, decide_true, decide_false, Bool.not_true, Bool.not_false, Bool.and_true, Bool.true_and, Bool.and_false, Bool.false_and, Bool.or_true, Bool.true_or, Bool.or_false, Bool.false_or, Bool.not_not, hll, w1]))
  refine ⟨?_, ?_⟩
  · refine G.nilsl intE ?_
    refine G.append (ys := s.r.f) (by simp; omega) (by simp only [maxLen, List.length_nil]; omega) fun u hu2 => ?_
    rw [List.nil_append]
    repeat' (first | (with_reducible refine G.joini0 ?_) | (with_reducible refine G.joini1 ?_) | (with_reducible refine G.drew ?_) | (simp (maxSteps := 2000000) only [↓RG, RP, true_and, and_true, beq_true, beq_false, Bool.true_beq, Bool.false_beq, BEq.rfl, Int.reduceEq, Int.reduceLT, Int.reduceLE, Nat.reduceEqDiff, decide_true, decide_false, Bool.not_true, Bool.not_false, Bool.and_true, Bool.true_and, Bool.and_false, Bool.false_and, Bool.or_true, Bool.true_or, Bool.or_false, Bool.false_or, Bool.not_not]))
    refine G.build intE [n] rfl (by simp) rfl fun u2 hu3 => ?_
    repeat' (first | (with_reducible refine G.joini0 ?_) | (with_reducible refine G.joini1 ?_) | (with_reducible refine G.drew ?_) | (simp (maxSteps := 2000000) only [↓RG, RP, true_and, and_true, beq_true, beq_false, Bool.true_beq, Bool.false_beq, BEq.rfl, Int.reduceEq, Int.reduceLT, Int.reduceLE, Nat.reduceEqDiff, decide_true, decide_false, Bool.not_true, Bool.not_false, Bool.and_true, Bool.true_and, Bool.and_false, Bool.false_and, Bool.or_true, Bool.true_or, Bool.or_false, Bool.false_or, Bool.not_not]))
    refine G.append (ys := [n]) (by simp; omega) (by simp only [maxLen, List.length_singleton]; omega) fun u3 hu4 => ?_
    refine G.slv (u := u3) fun ua un uc eu => ?_
    subst eu
    repeat' (first | (with_reducible refine G.joini0 ?_) | (with_reducible refine G.joini1 ?_) | (with_reducible refine G.drew ?_) | (simp (maxSteps := 2000000) only [↓RG, RP, true_and, and_true, beq_true, beq_false, Bool.true_beq, Bool.false_beq, BEq.rfl, Int.reduceEq, Int.reduceLT, Int.reduceLE, Nat.reduceEqDiff, decide_true, decide_false, Bool.not_true, Bool.not_false, Bool.and_true, Bool.true_and, Bool.and_false, Bool.false_and, Bool.or_true, Bool.true_or, Bool.or_false, Bool.false_or, Bool.not_not]))
    have es : (rks us ++ [k]).set us.length ⟨k.c, ⟨ua, un, uc⟩⟩ = rks us ++ [⟨k.c, ⟨ua, un, uc⟩⟩] := by simp
    refine RLevR_close ⟨k.c, ⟨ua, un, uc⟩⟩ ⟨s.r.c, s.r.f ++ [n]⟩ ?_
    refine RLevelsR_close b ⟨s.most, ⟨s.r.c, s.r.f ++ [n]⟩, s.up⟩ us ⟨k.c, ⟨ua, un, uc⟩⟩ es ⟨hv, hs.free, hu⟩ ?_
    have hK2 : G w0 (ob RLevelsR b ⟨s.most, ⟨s.r.c, s.r.f ++ [n]⟩, s.up⟩ :: M) (K (.tuple #[])) := hK
    exact hK2.sub
  · refine G.build intE [n] rfl (by simp) rfl fun u2 hu3 => ?_
    repeat' (first | (with_reducible refine G.joini0 ?_) | (with_reducible refine G.joini1 ?_) | (with_reducible refine G.drew ?_) | (simp (maxSteps := 2000000) only [↓RG, RP, true_and, and_true, beq_true, beq_false, Bool.true_beq, Bool.false_beq, BEq.rfl, Int.reduceEq, Int.reduceLT, Int.reduceLE, Nat.reduceEqDiff, decide_true, decide_false, Bool.not_true, Bool.not_false, Bool.and_true, Bool.true_and, Bool.and_false, Bool.false_and, Bool.or_true, Bool.true_or, Bool.or_false, Bool.false_or, Bool.not_not]))
    refine G.nilsl intE ?_
    refine G.append (ys := s.r.f) (by simp; omega) (by simp only [maxLen, List.length_nil]; omega) fun u hu2 => ?_
    rw [List.nil_append]
    repeat' (first | (with_reducible refine G.joini0 ?_) | (with_reducible refine G.joini1 ?_) | (with_reducible refine G.drew ?_) | (simp (maxSteps := 2000000) only [↓RG, RP, true_and, and_true, beq_true, beq_false, Bool.true_beq, Bool.false_beq, BEq.rfl, Int.reduceEq, Int.reduceLT, Int.reduceLE, Nat.reduceEqDiff, decide_true, decide_false, Bool.not_true, Bool.not_false, Bool.and_true, Bool.true_and, Bool.and_false, Bool.false_and, Bool.or_true, Bool.true_or, Bool.or_false, Bool.false_or, Bool.not_not]))
    refine G.append (ys := [n]) (by simp; omega) (by simp only [maxLen, List.length_singleton]; omega) fun u3 hu4 => ?_
    refine G.slv (u := u3) fun ua un uc eu => ?_
    subst eu
    repeat' (first | (with_reducible refine G.joini0 ?_) | (with_reducible refine G.joini1 ?_) | (with_reducible refine G.drew ?_) | (simp (maxSteps := 2000000) only [↓RG, RP, true_and, and_true, beq_true, beq_false, Bool.true_beq, Bool.false_beq, BEq.rfl, Int.reduceEq, Int.reduceLT, Int.reduceLE, Nat.reduceEqDiff, decide_true, decide_false, Bool.not_true, Bool.not_false, Bool.and_true, Bool.true_and, Bool.and_false, Bool.false_and, Bool.or_true, Bool.true_or, Bool.or_false, Bool.false_or, Bool.not_not]))
    have es : (rks us ++ [k]).set us.length ⟨k.c, ⟨ua, un, uc⟩⟩ = rks us ++ [⟨k.c, ⟨ua, un, uc⟩⟩] := by simp
    refine RLevR_close ⟨k.c, ⟨ua, un, uc⟩⟩ ⟨s.r.c, s.r.f ++ [n]⟩ ?_
    refine RLevelsR_close b ⟨s.most, ⟨s.r.c, s.r.f ++ [n]⟩, s.up⟩ us ⟨k.c, ⟨ua, un, uc⟩⟩ es ⟨hv, hs.free, hu⟩ ?_
    have hK2 : G w0 (ob RLevelsR b ⟨s.most, ⟨s.r.c, s.r.f ++ [n]⟩, s.up⟩ :: M) (K (.tuple #[])) := hK
    exact hK2.sub

end
end Go.Proofs.Ytlgdcfocnaifbaa.S
