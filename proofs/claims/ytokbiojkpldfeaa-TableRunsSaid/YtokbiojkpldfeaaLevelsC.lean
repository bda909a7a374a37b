/-
  CHAPTER 9: contracts of package levels: Cells, Take.
-/
import Derived.Test.YtokbiojkpldfeaaLevelsB
namespace Go.Proofs.Ytokbiojkpldfeaa.S
open Go Go.Proofs
set_option linter.unusedVariables false
set_option linter.unusedSimpArgs false

section
variable {w0 : Base} {L M : List Asn} {K : KV} {F : World → Prop} {C : Asn → List Asn} {b p c k : Nat} {a x n : Int} {r : Lv} {s : LvS} {us : List (Nat × Nat × Lv)} {v : Value} {l : List TCell}

theorem BoxR_close {α : Type} {E : Enc α} (b : Nat) (xs : List α) [PickAll [own b [v], sl E v xs] L M] (hv : Cells v [v]) (H : G w0 (ob (BoxR E) b xs :: M) F) : G w0 L F :=
  G.pickAll (As := [own b [v], sl E v xs]) (by rw [BoxR_open] at H; exact H v hv)

theorem outP_le (l : List (Nat × Nat × Lv)) {m : Nat} (pre : List (Fin m)) : ((pre.map fun i => lvAt l i.1).foldl outT []).length ≤ 96 := by
  generalize pre.map (fun i => lvAt l i.1) = z
  have : ∀ (z : List Lv) (out : List TCell), out.length ≤ 96 → (z.foldl outT out).length ≤ 96 := fun z => by
    induction z with
    | nil => exact fun out h => h
    | cons r z ih => exact fun out _ => ih _ outT_le
  exact this z [] (by simp)

theorem s_levels_Levels_Cells [i : SelOb L LevelsR b s C] (hK : ∀ u, Cells u [u] → G w0 (sl tCellE u s.cells :: L) (K u)) : G w0 L (CP Try.prog Fn.levels_Levels_Cells [ptr b 0] K) := by
  refine i.roN (fun M hK => ?_) hK
  refine C_levels_Levels_Cells ?_
  unfold S_levels_Levels_Cells
  refine G.new fun x1 => ?_
  refine G.take1 LevelsR b ?_
  rw [LevelsR_open]
  rintro v l ⟨hv, hs, hl⟩
  have hll : (ptrs l).length = l.length := by simp
  have h4 := hs.six
  have h5 := l_len hl
  have hrev : (backs (ptrs l).length).map (fun i => lvAt l i.1) = s.r :: s.up := by rw [backs_lvs, hl]; simp
  refine G.nilsl tCellE ?_
  refine BoxR_close (E := tCellE) (v := .slice none 0 0) x1 [] cells_slice ?_
  try simp (maxSteps := 2000000) only [↓RG, RP, true_and, and_true, beq_true, beq_false, Bool.true_beq, Bool.false_beq, BEq.rfl, Int.reduceEq, Int.reduceLT, Int.reduceLE, Nat.reduceEqDiff, decide_true, decide_false, Bool.not_true, Bool.not_false, Bool.and_true, Bool.true_and, Bool.and_false, Bool.false_and, Bool.or_true, Bool.true_or, Bool.or_false, Bool.false_or, Bool.not_not]
  refine C_slices_Backward_levels_level_levels_level ?_
  unfold S_slices_Backward_levels_level_levels_level
  refine G.box (cs := [v]) fun d => ?_
  refine G.backP (v := v) (rows := ptrs l) (fun pre => own d [v] :: ob (BoxR tCellE) x1 ((pre.map fun i => lvAt l i.1).foldl outT []) :: own b [i64 s.most, v] :: sl ptrE v (ptrs l) :: ob UpR b l :: M)
    (fun pre => []) (fun pre => True) (fun pre => False)
    (by omega) (fun pre W H => ⟨H.own_mem.2.1, (H.drop.drop.drop).sl_is⟩) rfl trivial (fun k m pre i J R _ hJ hR => ?_) (fun k m K' _ hk => ?_) (fun k m K' pre hpre hp hk => hp.elim)
  · have hk2 : i.1 < l.length := by have := i.2; omega
    obtain ⟨p, c, hx, e, hk3, e2⟩ := at_k hk2
    have ep : (ptrs l)[i.1] = p := by have := e.eq; rw [List.getElem?_eq_getElem i.2] at this; exact Option.some.inj this
    generalize hr : l[i.1].2.2 = r at hx
    have hat := lvAt_eq hx
    have hle := outP_le l pre
    have hJ := hJ trivial
    rw [List.map_append, List.foldl_append] at hJ
    simp only [List.map_cons, List.map_nil, List.foldl_cons, List.foldl_nil, hat] at hJ
    generalize (pre.map fun i => lvAt l i.1).foldl outT [] = out at hle hJ ⊢
    rw [show outT out r = (wTake 96 (wTake 96 [] r.c).1 out).1 from rfl] at hJ
    rw [ep]
    refine s_writes_New fun w => ?_
    rw [show held 96 0 96 = 96 from rfl]
    repeat' (first | (with_reducible refine G.joini0 ?_) | (with_reducible refine G.joini1 ?_) | (with_reducible refine G.drew ?_) | (simp (maxSteps := 2000000) only [↓RG, RP, true_and, and_true, beq_true, beq_false, Bool.true_beq, Bool.false_beq, BEq.rfl, Int.reduceEq, Int.reduceLT, Int.reduceLE, Nat.reduceEqDiff, decide_true, decide_false, Bool.not_true, Bool.not_false, Bool.and_true, Bool.true_and, Bool.and_false, Bool.false_and, Bool.or_true, Bool.true_or, Bool.or_false, Bool.false_or, Bool.not_not]))
    refine G.take1 UpR b ?_
    rw [UpR_at hx, LevelR_open]
    intro v2 hv2
    refine G.take1 (BoxR tCellE) x1 ?_
    rw [BoxR_open]
    intro v3 hv3
    refine G.okW (b := c) (most := 96) (cs := r.c) fun hw => ?_
    have hrl : (r.c.length : Int) ≤ 96 := hw.len
    repeat' (first | (with_reducible refine G.joini0 ?_) | (with_reducible refine G.joini1 ?_) | (with_reducible refine G.drew ?_) | (simp (maxSteps := 2000000) only [↓RG, RP, true_and, and_true, beq_true, beq_false, Bool.true_beq, Bool.false_beq, BEq.rfl, Int.reduceEq, Int.reduceLT, Int.reduceLE, Nat.reduceEqDiff, decide_true, decide_false, Bool.not_true, Bool.not_false, Bool.and_true, Bool.true_and, Bool.and_false, Bool.false_and, Bool.or_true, Bool.true_or, Bool.or_false, Bool.false_or, Bool.not_not]))
    refine s_writes_Writes_All (cs := r.c) (most := 96) fun u hu => ?_
    repeat' (first | (with_reducible refine G.joini0 ?_) | (with_reducible refine G.joini1 ?_) | (with_reducible refine G.drew ?_) | (simp (maxSteps := 2000000) only [↓RG, RP, true_and, and_true, beq_true, beq_false, Bool.true_beq, Bool.false_beq, BEq.rfl, Int.reduceEq, Int.reduceLT, Int.reduceLE, Nat.reduceEqDiff, decide_true, decide_false, Bool.not_true, Bool.not_false, Bool.and_true, Bool.true_and, Bool.and_false, Bool.false_and, Bool.or_true, Bool.true_or, Bool.or_false, Bool.false_or, Bool.not_not]))
    refine s_writes_Writes_Take (cs := []) (most := 96) (l := r.c) (by omega) ?_
    repeat' (first | (with_reducible refine G.joini0 ?_) | (with_reducible refine G.joini1 ?_) | (with_reducible refine G.drew ?_) | (simp (maxSteps := 2000000) only [↓RG, RP, true_and, and_true, beq_true, beq_false, Bool.true_beq, Bool.false_beq, BEq.rfl, Int.reduceEq, Int.reduceLT, Int.reduceLE, Nat.reduceEqDiff, decide_true, decide_false, Bool.not_true, Bool.not_false, Bool.and_true, Bool.true_and, Bool.and_false, Bool.false_and, Bool.or_true, Bool.true_or, Bool.or_false, Bool.false_or, Bool.not_not]))
    refine s_writes_Writes_Take (cs := (wTake 96 [] r.c).1) (most := 96) (l := out) (by omega) ?_
    repeat' (first | (with_reducible refine G.joini0 ?_) | (with_reducible refine G.joini1 ?_) | (with_reducible refine G.drew ?_) | (simp (maxSteps := 2000000) only [↓RG, RP, true_and, and_true, beq_true, beq_false, Bool.true_beq, Bool.false_beq, BEq.rfl, Int.reduceEq, Int.reduceLT, Int.reduceLE, Nat.reduceEqDiff, decide_true, decide_false, Bool.not_true, Bool.not_false, Bool.and_true, Bool.true_and, Bool.and_false, Bool.false_and, Bool.or_true, Bool.true_or, Bool.or_false, Bool.false_or, Bool.not_not]))
    refine s_writes_Writes_All (cs := (wTake 96 (wTake 96 [] r.c).1 out).1) (most := 96) fun u2 hu2 => ?_
    repeat' (first | (with_reducible refine G.joini0 ?_) | (with_reducible refine G.joini1 ?_) | (with_reducible refine G.drew ?_) | (simp (maxSteps := 2000000) only [↓RG, RP, true_and, and_true, beq_true, beq_false, Bool.true_beq, Bool.false_beq, BEq.rfl, Int.reduceEq, Int.reduceLT, Int.reduceLE, Nat.reduceEqDiff, decide_true, decide_false, Bool.not_true, Bool.not_false, Bool.and_true, Bool.true_and, Bool.and_false, Bool.false_and, Bool.or_true, Bool.true_or, Bool.or_false, Bool.false_or, Bool.not_not]))
    refine LevelR_close p c r hv2 ?_
    refine UpR_back (b := b) hx ?_
    refine BoxR_close (E := tCellE) x1 (wTake 96 (wTake 96 [] r.c).1 out).1 hu2 ?_
    exact hJ.sub
  · rw [hrev, cells_eq hs]
    refine G.take1 (BoxR tCellE) x1 ?_
    rw [BoxR_open]
    intro u hu
    repeat' (first | (with_reducible refine G.joini0 ?_) | (with_reducible refine G.joini1 ?_) | (with_reducible refine G.drew ?_) | (simp (maxSteps := 2000000) only [↓RG, RP, true_and, and_true, beq_true, beq_false, Bool.true_beq, Bool.false_beq, BEq.rfl, Int.reduceEq, Int.reduceLT, Int.reduceLE, Nat.reduceEqDiff, decide_true, decide_false, Bool.not_true, Bool.not_false, Bool.and_true, Bool.true_and, Bool.and_false, Bool.false_and, Bool.or_true, Bool.true_or, Bool.or_false, Bool.false_or, Bool.not_not]))
    refine hk _ _ ?_
    have hK := hK u hu
    rw [G_swap, LevelsR_open] at hK
    exact (hK v l ⟨hv, hs, hl⟩).sub

theorem lPuts_drop {k : Nat} {z : LvS} (hk : k < l.length) (hp : lPuts s l = lPuts z (l.drop k)) :
    (lErr z l[k].place = 0 → lPuts s l = lPuts (z.put l[k].place l[k].word) (l.drop (k + 1))) ∧ (lErr z l[k].place ≠ 0 → lPuts s l = (z, lErr z l[k].place)) := by
  have e : ∀ (z : LvS) (c : TCell) (l : List TCell), lPuts z (c :: l) = if lErr z c.place = 0 then lPuts (z.put c.place c.word) l else (z, lErr z c.place) := fun _ _ _ => rfl
  rw [List.drop_eq_getElem_cons hk, e] at hp
  exact ⟨fun h => by rw [hp, if_pos h], fun h => by rw [hp, if_neg h]⟩

theorem s_levels_Levels_Take [i : SelOb L LevelsR b s C] [r : ∀ A, Rd w0 (C A) v tCellE 2 l] (hl : l.length ≤ 1000000) (hK : G w0 (C (ob LevelsR b (lTake s l).1)) (K (i64 (lTake s l).2))) : G w0 L (CP Try.prog Fn.levels_Levels_Take [ptr b 0, v] K) := by
  refine G.okL (b := b) (s := s) fun hs => ?_
  have ho := hs.ok s.r (by simp)
  have h6 := hs.six
  have h1 := hs.len
  have h2 := hs.hi
  rw [totalC_cons] at h1
  refine i.useM (fun M hM hK => ?_) hK
  have r' := Rd.frame hM r
  refine C_levels_Levels_Take ?_
  unfold S_levels_Levels_Take
  refine s_writes_New fun w => ?_
  rw [show held 96 0 96 = 96 from rfl]
  refine G.take1 LevelsR b ?_
  rw [LevelsR_in]
  rintro vv p c us ⟨hv, _, hu⟩
  have hul := us_len hu
  refine s_in (by omega) ?_
  refine G.take1 LevelR p ?_
  rw [LevelR_open]
  intro v2 hv2
  repeat' (first | (with_reducible refine G.joini0 ?_) | (with_reducible refine G.joini1 ?_) | (with_reducible refine G.drew ?_) | (simp (maxSteps := 2000000) only [↓RG, RP, true_and, and_true, beq_true, beq_false, Bool.true_beq, Bool.false_beq, BEq.rfl, Int.reduceEq, Int.reduceLT, Int.reduceLE, Nat.reduceEqDiff, decide_true, decide_false, Bool.not_true, Bool.not_false, Bool.and_true, Bool.true_and, Bool.and_false, Bool.false_and, Bool.or_true, Bool.true_or, Bool.or_false, Bool.false_or, Bool.not_not]))
  refine s_writes_Writes_All (cs := s.r.c) (most := 96) fun u hu2 => ?_
  repeat' (first | (with_reducible refine G.joini0 ?_) | (with_reducible refine G.joini1 ?_) | (with_reducible refine G.drew ?_) | (simp (maxSteps := 2000000) only [↓RG, RP, true_and, and_true, beq_true, beq_false, Bool.true_beq, Bool.false_beq, BEq.rfl, Int.reduceEq, Int.reduceLT, Int.reduceLE, Nat.reduceEqDiff, decide_true, decide_false, Bool.not_true, Bool.not_false, Bool.and_true, Bool.true_and, Bool.and_false, Bool.false_and, Bool.or_true, Bool.true_or, Bool.or_false, Bool.false_or, Bool.not_not]))
  refine s_writes_Writes_Take (cs := []) (most := 96) (l := s.r.c) (by omega) ?_
  rw [wTake_room (most := 96) (cs := []) ho.places (by simp; omega), ho.self]
  refine LevelR_close p c s.r hv2 ?_
  refine LevelsR_close b s us p c rfl ⟨hv, hs, hu⟩ ?_
  repeat' (first | (with_reducible refine G.joini0 ?_) | (with_reducible refine G.joini1 ?_) | (with_reducible refine G.drew ?_) | (simp (maxSteps := 2000000) only [↓RG, RP, true_and, and_true, beq_true, beq_false, Bool.true_beq, Bool.false_beq, BEq.rfl, Int.reduceEq, Int.reduceLT, Int.reduceLE, Nat.reduceEqDiff, decide_true, decide_false, Bool.not_true, Bool.not_false, Bool.and_true, Bool.true_and, Bool.and_false, Bool.false_and, Bool.or_true, Bool.true_or, Bool.or_false, Bool.false_or, Bool.not_not]))
  refine G.loop1 (σ := Nat × LvS) (fun z => i64 z.1) (fun z => ob LevelsR b z.2 :: sl tCellE u s.r.c :: ob WritesR w (96, s.r.c) :: M) (fun z => z.1 ≤ l.length ∧ lPuts s l = lPuts z.2 (l.drop z.1) ∧ z.2.most = s.most ∧ z.2.up = s.up ∧ z.2.r.f = s.r.f) (fun z => l.length - z.1) (0, s) rfl rfl ⟨by simp, by simp, rfl, rfl, rfl⟩ ?_
  rintro ⟨k, z⟩ ⟨hk, hp, e1, e2, e3⟩ J hJ
  simp only at hk hp e1 e2 e3 hJ ⊢
  try simp (maxSteps := 2000000) only [↓RG, RP, true_and, and_true, beq_true, beq_false, Bool.true_beq, Bool.false_beq, BEq.rfl, Int.reduceEq, Int.reduceLT, Int.reduceLE, Nat.reduceEqDiff, decide_true, decide_false, Bool.not_true, Bool.not_false, Bool.and_true, Bool.true_and, Bool.and_false, Bool.false_and, Bool.or_true, Bool.true_or, Bool.or_false, Bool.false_or, Bool.not_not]
  refine G.cond (fun h => ?_) (fun h => ?_)
  · have hk2 : k < l.length := by simpa using h
    have e := elem_of hk2
    obtain ⟨p1, p2⟩ := lPuts_drop hk2 hp
    try simp (maxSteps := 2000000) only [↓RG, RP, true_and, and_true, beq_true, beq_false, Bool.true_beq, Bool.false_beq, BEq.rfl, Int.reduceEq, Int.reduceLT, Int.reduceLE, Nat.reduceEqDiff, decide_true, decide_false, Bool.not_true, Bool.not_false, Bool.and_true, Bool.true_and, Bool.and_false, Bool.false_and, Bool.or_true, Bool.true_or, Bool.or_false, Bool.false_or, Bool.not_not]
    refine G.new fun q => ?_
    try simp (maxSteps := 2000000) only [↓RG, RP, true_and, and_true, beq_true, beq_false, Bool.true_beq, Bool.false_beq, BEq.rfl, Int.reduceEq, Int.reduceLT, Int.reduceLE, Nat.reduceEqDiff, decide_true, decide_false, Bool.not_true, Bool.not_false, Bool.and_true, Bool.true_and, Bool.and_false, Bool.false_and, Bool.or_true, Bool.true_or, Bool.or_false, Bool.false_or, Bool.not_not]
    refine s_levels_Levels_Put (s := z) ?_
    try simp (maxSteps := 2000000) only [↓RG, RP, true_and, and_true, beq_true, beq_false, Bool.true_beq, Bool.false_beq, BEq.rfl, Int.reduceEq, Int.reduceLT, Int.reduceLE, Nat.reduceEqDiff, decide_true, decide_false, Bool.not_true, Bool.not_false, Bool.and_true, Bool.true_and, Bool.and_false, Bool.false_and, Bool.or_true, Bool.true_or, Bool.or_false, Bool.false_or, Bool.not_not]
    refine G.cond (fun h => ?_) (fun h => ?_)
    · have h0 : lErr z l[k].place ≠ 0 := by simpa using h
      have p3 := p2 h0
      rw [if_neg h0]
      have h4 : lTake s l = (s, lErr z l[k].place) := by
        unfold lTake; rw [p3]; simp [h0]
      rw [h4] at hK
      refine G.take1 LevelsR b ?_
      rw [LevelsR_in]
      rintro v4 p4 c4 us4 ⟨hv4, _, hu4⟩
      have hul4 := us_len hu4
      rw [e2] at hul4 hu4
      refine s_in (by omega) ?_
      refine G.take1 LevelR p4 ?_
      rw [LevelR_open]
      intro v5 hv5
      rw [e3]
      rw [e1]
      repeat' (first | (with_reducible refine G.joini0 ?_) | (with_reducible refine G.joini1 ?_) | (with_reducible refine G.drew ?_) | (simp (maxSteps := 2000000) only [↓RG, RP, true_and, and_true, beq_true, beq_false, Bool.true_beq, Bool.false_beq, BEq.rfl, Int.reduceEq, Int.reduceLT, Int.reduceLE, Nat.reduceEqDiff, decide_true, decide_false, Bool.not_true, Bool.not_false, Bool.and_true, Bool.true_and, Bool.and_false, Bool.false_and, Bool.or_true, Bool.true_or, Bool.or_false, Bool.false_or, Bool.not_not]))
      refine LevelR_close p4 w ⟨s.r.c, s.r.f⟩ hv5 ?_
      refine LevelsR_close b s us4 p4 w rfl ⟨hv4, hs, hu4⟩ ?_
      exact hK.sub
    · have h0 : lErr z l[k].place = 0 := by simpa using h
      rw [if_pos h0]
      try simp (maxSteps := 2000000) only [↓RG, RP, true_and, and_true, beq_true, beq_false, Bool.true_beq, Bool.false_beq, BEq.rfl, Int.reduceEq, Int.reduceLT, Int.reduceLE, Nat.reduceEqDiff, decide_true, decide_false, Bool.not_true, Bool.not_false, Bool.and_true, Bool.true_and, Bool.and_false, Bool.false_and, Bool.or_true, Bool.true_or, Bool.or_false, Bool.false_or, Bool.not_not]
      rw [wsucc (by omega)]
      exact (hJ (k + 1, z.put l[k].place l[k].word) ⟨hk2, p1 h0, e1, e2, e3⟩ (by simp; omega)).sub
  · have : l.drop k = [] := List.drop_eq_nil_of_le (by simpa using h)
    rw [this] at hp
    have h4 : lTake s l = (z, 0) := by
      unfold lTake; rw [hp]; simp [lPuts]
    rw [h4] at hK
    exact hK.sub

end
end Go.Proofs.Ytokbiojkpldfeaa.S
