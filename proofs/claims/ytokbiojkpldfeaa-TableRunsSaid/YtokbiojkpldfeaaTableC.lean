/-
  CHAPTER 18: package table: Put, Get, Del, Len.
-/
import Derived.Test.YtokbiojkpldfeaaTableB
namespace Go.Proofs.Ytokbiojkpldfeaa.S
open Go Go.Proofs
set_option linter.unusedVariables false
set_option linter.unusedSimpArgs false

/-- opened, or made -/
def tAt (d : DrS) (root : Int) : DrS × TbS := if (tOpen d root).1.err = 0 ∧ (tOpen d root).2.head = 0 then tMade (tOpen d root).1 root else tOpen d root
def putGrow (d : DrS) (t : TbS) (link k : Int) : DrS × TbS × Int :=
  if d.err = 0 ∧ wU t.wide ≤ t.keys ∧ t.wide < 16 then ((tSeek (tGrow d t).1 (tGrow d t).2 k).1, (tGrow d t).2, (tSeek (tGrow d t).1 (tGrow d t).2 k).2.1) else (d, t, link)
def putEnd (d : DrS) (t : TbS) (link k x : Int) : DrS :=
  dWrite (dPoint (dPoint (dWrite (dWrite (dAlloc d 3).1 (w64 ((dAlloc d 3).2 + 0)) k) (w64 ((dAlloc d 3).2 + 1)) x) (w64 ((dAlloc d 3).2 + 2)) 0) link (dAlloc d 3).2) (w64 (t.head + 0)) (wU (t.keys + 1))
def tPut1 (root k x : Int) (d : DrS) : DrS × Bool :=
  if (tAt d root).1.err = 0 then
    (if (tSeek (tAt d root).1 (tAt d root).2 k).2.2 = 0 then
      (putEnd (putGrow (tSeek (tAt d root).1 (tAt d root).2 k).1 (tAt d root).2 (tSeek (tAt d root).1 (tAt d root).2 k).2.1 k).1 (putGrow (tSeek (tAt d root).1 (tAt d root).2 k).1 (tAt d root).2 (tSeek (tAt d root).1 (tAt d root).2 k).2.1 k).2.1 (putGrow (tSeek (tAt d root).1 (tAt d root).2 k).1 (tAt d root).2 (tSeek (tAt d root).1 (tAt d root).2 k).2.1 k).2.2 k x, true)
     else (dWrite (tSeek (tAt d root).1 (tAt d root).2 k).1 (w64 ((tSeek (tAt d root).1 (tAt d root).2 k).2.2 + 1)) x, false))
  else ((tAt d root).1, false)
/-- the draft, the value, whether it is there -/
def tGet1 (root k : Int) (d : DrS) : DrS × Int × Bool :=
  if (tOpen d root).1.err = 0 ∧ (tOpen d root).2.head ≠ 0 then
    (if (tSeek (tOpen d root).1 (tOpen d root).2 k).2.2 = 0 then ((tSeek (tOpen d root).1 (tOpen d root).2 k).1, 0, false)
     else ((dRead (tSeek (tOpen d root).1 (tOpen d root).2 k).1 (w64 ((tSeek (tOpen d root).1 (tOpen d root).2 k).2.2 + 1))).1, (dRead (tSeek (tOpen d root).1 (tOpen d root).2 k).1 (w64 ((tSeek (tOpen d root).1 (tOpen d root).2 k).2.2 + 1))).2, true))
  else ((tOpen d root).1, 0, false)
/-- a node is taken out -/
def cutOut (d : DrS) (t : TbS) (link at_ : Int) : DrS := dFree (dWrite (dWrite (dRead d (w64 (at_ + 2))).1 link (dRead d (w64 (at_ + 2))).2) (w64 (t.head + 0)) (wU (t.keys - 1))) at_
def tDel1 (root k : Int) (d : DrS) : DrS × Bool :=
  if (tOpen d root).1.err = 0 ∧ (tOpen d root).2.head ≠ 0 then
    (if (tSeek (tOpen d root).1 (tOpen d root).2 k).2.2 = 0 then ((tSeek (tOpen d root).1 (tOpen d root).2 k).1, false)
     else (cutOut (tSeek (tOpen d root).1 (tOpen d root).2 k).1 (tOpen d root).2 (tSeek (tOpen d root).1 (tOpen d root).2 k).2.1 (tSeek (tOpen d root).1 (tOpen d root).2 k).2.2, true))
  else ((tOpen d root).1, false)
def tLen1 (root : Int) (d : DrS) : DrS × Int := ((tOpen d root).1, if (tOpen d root).2.head = 0 then 0 else w64 (tOpen d root).2.keys)

theorem good_wide {n : Int} (h : badWide n = false) : n = 2 ∨ n = 4 ∨ n = 8 ∨ n = 16 := by
  have key : ∀ m : Fin 17, badWide (m.1 : Int) = false → m.1 = 2 ∨ m.1 = 4 ∨ m.1 = 8 ∨ m.1 = 16 := by decide +kernel
  have h2 := h
  unfold badWide at h2
  simp only [Bool.or_eq_false_iff, decide_eq_false_iff_not] at h2
  have h3 := key ⟨n.toNat, by omega⟩ (by simp only; rw [show ((n.toNat : Nat) : Int) = n by omega]; exact h)
  simp only at h3
  omega
theorem tOpen_wide {d : DrS} {r : Int} (h : (tOpen d r).2.head ≠ 0) : (tOpen d r).2.wide = 2 ∨ (tOpen d r).2.wide = 4 ∨ (tOpen d r).2.wide = 8 ∨ (tOpen d r).2.wide = 16 := by
  unfold tOpen at h ⊢
  split at h
  · exact absurd rfl h
  · rename_i h0
    rw [if_neg h0]
    simp only
    split
    · exact .inl rfl
    · rename_i hb
      have := good_wide (by simpa only [Bool.not_eq_true] using hb)
      rcases this with e | e | e | e <;> rw [e] <;> decide
theorem tAt_wide {d : DrS} {r : Int} (h : (tAt d r).1.err = 0) : (tAt d r).2.wide = 2 ∨ (tAt d r).2.wide = 4 ∨ (tAt d r).2.wide = 8 ∨ (tAt d r).2.wide = 16 := by
  unfold tAt at h ⊢
  split
  · exact .inl rfl
  · rename_i h0
    rw [if_neg h0] at h
    exact tOpen_wide (fun e => h0 ⟨h, e⟩)
theorem tOpen_steps {d : DrS} {r : Int} : (tOpen d r).1.steps = d.steps := by
  unfold tOpen
  split
  · exact dPlace_steps
  · simp only
    rw [dPlace_steps]
    split
    · rw [dFail_steps, dRead_steps, dRead_steps, dPlace_steps]
    · rw [dRead_steps, dRead_steps, dPlace_steps]
theorem tMade_steps {d : DrS} {r : Int} : (tMade d r).1.steps = d.steps := by
  unfold tMade
  simp only [dPoint_steps, dAlloc_steps]
theorem tAt_steps {d : DrS} {r : Int} : (tAt d r).1.steps = d.steps := by unfold tAt; split <;> simp [tMade_steps, tOpen_steps]
theorem tAt_rf {d : DrS} {r : Int} : (tAt d r).1.rf = d.rf := by
  unfold tAt
  split
  · rw [tMade_rf, tOpen_rf]
  · exact tOpen_rf
theorem tGrow_ok {d : DrS} {t : TbS} {m : Nat} (h : StOk d m) (hm : m ≤ 900) (hw : t.wide ≤ 16) : StOk (tGrow d t).1 (m + 16) := by
  unfold tGrow
  simp only
  have h1 := eachN_ok (f := growF (w64 (2 * t.wide))) (fun s d a => growF_steps) (t := t) (n := t.wide.toNat) (i := 0) (m := m) (s := List.replicate (w64 (2 * t.wide)).toNat 0) (d := (dAlloc d (w64 (2 * t.wide))).1) (by omega) (h.eq dAlloc_steps)
  have h2 : StOk (tEach (growF (w64 (2 * t.wide))) t (List.replicate (w64 (2 * t.wide)).toNat 0) (dAlloc d (w64 (2 * t.wide))).1).2 (m + 16) := by
    unfold StOk at h1 ⊢
    show 0 ≤ (eachN _ _ _ _ _ _).2.steps ∧ (eachN _ _ _ _ _ _).2.steps ≤ _
    omega
  exact h2.eq (by rw [dPoint_steps, dPoint_steps, dFree_steps, pts_steps])

section
variable {w0 : Base} {L M : List Asn} {K : KV} {F : World → Prop} {C : Asn → List Asn} {b tp x1 x2 x3 x4 : Nat} {d : DrS} {t : TbS} {n a x e w k root : Int}

theorem s_Put_1 (hs : StOk d 0) (hf : d.rf.length ≤ 1000) (hK : G w0 (own x4 [.bool (tPut1 root k x d).2] :: ob DraftR b (tPut1 root k x d).1 :: own x1 [i64 root] :: own x2 [u64 k] :: own x3 [u64 x] :: M) (K (.tuple #[]))) :
    G w0 (own x4 [.bool false] :: ob DraftR b d :: own x1 [i64 root] :: own x2 [u64 k] :: own x3 [u64 x] :: M) (CP Try.prog Fn.table_Put_1 [ptr b 0, ptr x1 0, ptr x2 0, ptr x3 0, ptr x4 0] K) := by
  refine C_table_Put_1 ?_
  unfold S_table_Put_1
  try simp (maxSteps := 2000000) only [fuse_and, fuse_or, fuse_step, fuse_pair, fuse_in, andP_true]
  try simp (maxSteps := 2000000) only [↓RG, RP, true_and, and_true, beq_true, beq_false, Bool.true_beq, Bool.false_beq, BEq.rfl, Int.reduceEq, Int.reduceLT, Int.reduceLE, Nat.reduceEqDiff, decide_true, decide_false, Bool.not_true, Bool.not_false, Bool.and_true, Bool.true_and, Bool.and_false, Bool.false_and, Bool.or_true, Bool.true_or, Bool.or_false, Bool.false_or, Bool.not_not]
  refine s_table_open (d := d) fun tp0 => ?_
  refine s_draft_OK (d := (tOpen d root).1) ?_
  refine G.all (decide ((tOpen d root).2.head = 0)) (fun _ K hK => by try simp (maxSteps := 2000000) only [↓RG, RP, true_and, and_true, beq_true, beq_false, Bool.true_beq, Bool.false_beq, BEq.rfl, Int.reduceEq, Int.reduceLT, Int.reduceLE, Nat.reduceEqDiff, decide_true, decide_false, Bool.not_true, Bool.not_false, Bool.and_true, Bool.true_and, Bool.and_false, Bool.false_and, Bool.or_true, Bool.true_or, Bool.or_false, Bool.false_or, Bool.not_not]; exact hK) ?_
  refine G.join1 (σ := Nat) (fun tp => ptr tp 0) (fun tp => own tp ((tAt d root).2.cells b) :: own x4 [.bool false] :: ob DraftR b (tAt d root).1 :: own x1 [i64 root] :: own x2 [u64 k] :: own x3 [u64 x] :: M) (fun _ => True) (fun tp _ => ?_) (fun J hJ => ?_)
  · refine s_draft_OK (d := (tAt d root).1) ?_
    unfold tPut1 at hK
    have hst := tAt_steps (d := d) (r := root)
    have hrf := tAt_rf (d := d) (r := root)
    have hwd := tAt_wide (d := d) (r := root)
    generalize tAt d root = m at hK hst hrf hwd ⊢
    obtain ⟨d1, t⟩ := m
    simp only at hK hst hrf hwd ⊢
    by_cases h1 : d1.err = 0
    · rw [if_pos h1] at hK
      have hwd := hwd h1
      try simp (maxSteps := 2000000) only [↓RG, RP, true_and, and_true, beq_true, beq_false, Bool.true_beq, Bool.false_beq, BEq.rfl, Int.reduceEq, Int.reduceLT, Int.reduceLE, Nat.reduceEqDiff, decide_true, decide_false, Bool.not_true, Bool.not_false, Bool.and_true, Bool.true_and, Bool.and_false, Bool.false_and, Bool.or_true, Bool.true_or, Bool.or_false, Bool.false_or, Bool.not_not, eq_true h1]
      refine s_table_seek (b := b) (d := d1) (t := t) (m := 0) (hs.eq hst) (by omega) ?_
      have hsk := tSeek_ok (t := t) (k := k) (hs.eq hst) (by omega)
      have hrf2 := tSeek_rf (d := d1) (t := t) (k := k)
      generalize tSeek d1 t k = s at hK hsk hrf2 ⊢
      obtain ⟨d2, link, at_⟩ := s
      simp only at hK hsk hrf2 ⊢
      by_cases h2 : at_ = 0
      · rw [if_pos h2] at hK
        subst h2
        try simp (maxSteps := 2000000) only [↓RG, RP, true_and, and_true, beq_true, beq_false, Bool.true_beq, Bool.false_beq, BEq.rfl, Int.reduceEq, Int.reduceLT, Int.reduceLE, Nat.reduceEqDiff, decide_true, decide_false, Bool.not_true, Bool.not_false, Bool.and_true, Bool.true_and, Bool.and_false, Bool.false_and, Bool.or_true, Bool.true_or, Bool.or_false, Bool.false_or, Bool.not_not]
        refine G.drew ?_
        refine s_draft_OK (d := d2) ?_
        refine G.all (decide (wU t.wide ≤ t.keys)) (fun _ K hK => by try simp (maxSteps := 2000000) only [↓RG, RP, true_and, and_true, beq_true, beq_false, Bool.true_beq, Bool.false_beq, BEq.rfl, Int.reduceEq, Int.reduceLT, Int.reduceLE, Nat.reduceEqDiff, decide_true, decide_false, Bool.not_true, Bool.not_false, Bool.and_true, Bool.true_and, Bool.and_false, Bool.false_and, Bool.or_true, Bool.true_or, Bool.or_false, Bool.false_or, Bool.not_not]; exact hK) ?_
        refine G.all (decide (t.wide < 16)) (fun _ K hK => by try simp (maxSteps := 2000000) only [↓RG, RP, true_and, and_true, beq_true, beq_false, Bool.true_beq, Bool.false_beq, BEq.rfl, Int.reduceEq, Int.reduceLT, Int.reduceLE, Nat.reduceEqDiff, decide_true, decide_false, Bool.not_true, Bool.not_false, Bool.and_true, Bool.true_and, Bool.and_false, Bool.false_and, Bool.or_true, Bool.true_or, Bool.or_false, Bool.false_or, Bool.not_not]; exact hK) ?_
        refine G.join1 (σ := Int) (fun l => i64 l) (fun l => own tp ((putGrow d2 t link k).2.1.cells b) :: own x4 [.bool false] :: ob DraftR b (putGrow d2 t link k).1 :: own x1 [i64 root] :: own x2 [u64 k] :: own x3 [u64 x] :: M) (fun l => l = (putGrow d2 t link k).2.2) (fun l hl => ?_) (fun J2 hJ2 => ?_)
        · subst hl
          unfold putEnd at hK
          generalize putGrow d2 t link k = g at hK ⊢
          obtain ⟨d3, t3, link3⟩ := g
          simp only at hK ⊢
          refine s_draft_Alloc (d := d3) ?_
          generalize dAlloc d3 3 = p at hK ⊢
          obtain ⟨d4, n⟩ := p
          simp only at hK ⊢
          try simp (maxSteps := 2000000) only [↓RG, RP, true_and, and_true, beq_true, beq_false, Bool.true_beq, Bool.false_beq, BEq.rfl, Int.reduceEq, Int.reduceLT, Int.reduceLE, Nat.reduceEqDiff, decide_true, decide_false, Bool.not_true, Bool.not_false, Bool.and_true, Bool.true_and, Bool.and_false, Bool.false_and, Bool.or_true, Bool.true_or, Bool.or_false, Bool.false_or, Bool.not_not]
          refine s_draft_Write (d := d4) ?_
          try simp (maxSteps := 2000000) only [↓RG, RP, true_and, and_true, beq_true, beq_false, Bool.true_beq, Bool.false_beq, BEq.rfl, Int.reduceEq, Int.reduceLT, Int.reduceLE, Nat.reduceEqDiff, decide_true, decide_false, Bool.not_true, Bool.not_false, Bool.and_true, Bool.true_and, Bool.and_false, Bool.false_and, Bool.or_true, Bool.true_or, Bool.or_false, Bool.false_or, Bool.not_not]
          refine s_draft_Write (d := dWrite d4 (w64 (n + 0)) k) ?_
          try simp (maxSteps := 2000000) only [↓RG, RP, true_and, and_true, beq_true, beq_false, Bool.true_beq, Bool.false_beq, BEq.rfl, Int.reduceEq, Int.reduceLT, Int.reduceLE, Nat.reduceEqDiff, decide_true, decide_false, Bool.not_true, Bool.not_false, Bool.and_true, Bool.true_and, Bool.and_false, Bool.false_and, Bool.or_true, Bool.true_or, Bool.or_false, Bool.false_or, Bool.not_not]
          refine s_draft_Point (d := dWrite (dWrite d4 (w64 (n + 0)) k) (w64 (n + 1)) x) ?_
          refine s_draft_Point (d := dPoint (dWrite (dWrite d4 (w64 (n + 0)) k) (w64 (n + 1)) x) (w64 (n + 2)) 0) ?_
          refine G.drew ?_
          try simp (maxSteps := 2000000) only [↓RG, RP, true_and, and_true, beq_true, beq_false, Bool.true_beq, Bool.false_beq, BEq.rfl, Int.reduceEq, Int.reduceLT, Int.reduceLE, Nat.reduceEqDiff, decide_true, decide_false, Bool.not_true, Bool.not_false, Bool.and_true, Bool.true_and, Bool.and_false, Bool.false_and, Bool.or_true, Bool.true_or, Bool.or_false, Bool.false_or, Bool.not_not]
          refine s_draft_Write (d := dPoint (dPoint (dWrite (dWrite d4 (w64 (n + 0)) k) (w64 (n + 1)) x) (w64 (n + 2)) 0) link3 n) ?_
          try simp (maxSteps := 2000000) only [↓RG, RP, true_and, and_true, beq_true, beq_false, Bool.true_beq, Bool.false_beq, BEq.rfl, Int.reduceEq, Int.reduceLT, Int.reduceLE, Nat.reduceEqDiff, decide_true, decide_false, Bool.not_true, Bool.not_false, Bool.and_true, Bool.true_and, Bool.and_false, Bool.false_and, Bool.or_true, Bool.true_or, Bool.or_false, Bool.false_or, Bool.not_not]
          exact hK.sub
        · refine G.cond (fun h => ?_) (fun h => ?_)
          · have h3 : d2.err = 0 ∧ wU t.wide ≤ t.keys ∧ t.wide < 16 := by
              simp only [Bool.and_eq_true, decide_eq_true_eq] at h
              exact ⟨h.1.1, h.1.2, h.2⟩
            have e : putGrow d2 t link k = ((tSeek (tGrow d2 t).1 (tGrow d2 t).2 k).1, (tGrow d2 t).2, (tSeek (tGrow d2 t).1 (tGrow d2 t).2 k).2.1) := by unfold putGrow; rw [if_pos h3]
            have hj := hJ2 _ rfl
            rw [e] at hj
            have hwd2 : t.wide = 2 ∨ t.wide = 4 ∨ t.wide = 8 := by omega
            refine s_table_grow (b := b) (d := d2) (t := t) (m := 1) (wn := 0) hsk (by omega) hwd2 (by rw [hrf2, hrf]; exact hf) ?_
            try simp (maxSteps := 2000000) only [↓RG, RP, true_and, and_true, beq_true, beq_false, Bool.true_beq, Bool.false_beq, BEq.rfl, Int.reduceEq, Int.reduceLT, Int.reduceLE, Nat.reduceEqDiff, decide_true, decide_false, Bool.not_true, Bool.not_false, Bool.and_true, Bool.true_and, Bool.and_false, Bool.false_and, Bool.or_true, Bool.true_or, Bool.or_false, Bool.false_or, Bool.not_not]
            refine s_table_seek (b := b) (d := (tGrow d2 t).1) (t := (tGrow d2 t).2) (m := 17) (tGrow_ok hsk (by omega) (by omega)) (by omega) ?_
            try simp (maxSteps := 2000000) only [↓RG, RP, true_and, and_true, beq_true, beq_false, Bool.true_beq, Bool.false_beq, BEq.rfl, Int.reduceEq, Int.reduceLT, Int.reduceLE, Nat.reduceEqDiff, decide_true, decide_false, Bool.not_true, Bool.not_false, Bool.and_true, Bool.true_and, Bool.and_false, Bool.false_and, Bool.or_true, Bool.true_or, Bool.or_false, Bool.false_or, Bool.not_not]
            exact hj.sub
          · have h3 : ¬ (d2.err = 0 ∧ wU t.wide ≤ t.keys ∧ t.wide < 16) := by
              intro h4
              simp [h4.1, h4.2.1, h4.2.2] at h
            have e : putGrow d2 t link k = (d2, t, link) := by unfold putGrow; rw [if_neg h3]
            have hj := hJ2 _ rfl
            rw [e] at hj
            exact hj.sub
      · rw [if_neg h2] at hK
        try simp (maxSteps := 2000000) only [↓RG, RP, true_and, and_true, beq_true, beq_false, Bool.true_beq, Bool.false_beq, BEq.rfl, Int.reduceEq, Int.reduceLT, Int.reduceLE, Nat.reduceEqDiff, decide_true, decide_false, Bool.not_true, Bool.not_false, Bool.and_true, Bool.true_and, Bool.and_false, Bool.false_and, Bool.or_true, Bool.true_or, Bool.or_false, Bool.false_or, Bool.not_not, h2]
        refine s_draft_Write (d := d2) ?_
        exact hK.sub
    · rw [if_neg h1] at hK
      try simp (maxSteps := 2000000) only [↓RG, RP, true_and, and_true, beq_true, beq_false, Bool.true_beq, Bool.false_beq, BEq.rfl, Int.reduceEq, Int.reduceLT, Int.reduceLE, Nat.reduceEqDiff, decide_true, decide_false, Bool.not_true, Bool.not_false, Bool.and_true, Bool.true_and, Bool.and_false, Bool.false_and, Bool.or_true, Bool.true_or, Bool.or_false, Bool.false_or, Bool.not_not, h1]
      exact hK.sub
  · refine G.cond (fun h => ?_) (fun h => ?_)
    · have h1 : (tOpen d root).1.err = 0 ∧ (tOpen d root).2.head = 0 := by simpa using h
      have e : tAt d root = tMade (tOpen d root).1 root := by unfold tAt; rw [if_pos h1]
      try simp (maxSteps := 2000000) only [↓RG, RP, true_and, and_true, beq_true, beq_false, Bool.true_beq, Bool.false_beq, BEq.rfl, Int.reduceEq, Int.reduceLT, Int.reduceLE, Nat.reduceEqDiff, decide_true, decide_false, Bool.not_true, Bool.not_false, Bool.and_true, Bool.true_and, Bool.and_false, Bool.false_and, Bool.or_true, Bool.true_or, Bool.or_false, Bool.false_or, Bool.not_not]
      refine s_table_made (d := (tOpen d root).1) fun tp => ?_
      rw [← e]
      exact (hJ tp trivial).sub
    · have h1 : ¬ ((tOpen d root).1.err = 0 ∧ (tOpen d root).2.head = 0) := by
        intro h2
        simp [h2.1, h2.2] at h
      have e : tAt d root = tOpen d root := by unfold tAt; rw [if_neg h1]
      rw [← e]
      exact (hJ tp0 trivial).sub

theorem s_Get_1 (hs : StOk d 0) (hK : G w0 (own x3 [u64 (tGet1 root k d).2.1] :: own x4 [.bool (tGet1 root k d).2.2] :: ob DraftR b (tGet1 root k d).1 :: own x1 [i64 root] :: own x2 [u64 k] :: M) (K (.tuple #[]))) :
    G w0 (own x3 [u64 0] :: own x4 [.bool false] :: ob DraftR b d :: own x1 [i64 root] :: own x2 [u64 k] :: M) (CP Try.prog Fn.table_Get_1 [ptr b 0, ptr x1 0, ptr x2 0, ptr x3 0, ptr x4 0] K) := by
  refine C_table_Get_1 ?_
  unfold S_table_Get_1
  unfold tGet1 at hK
  try simp (maxSteps := 2000000) only [fuse_and, fuse_or, fuse_step, fuse_pair, fuse_in, andP_true]
  try simp (maxSteps := 2000000) only [↓RG, RP, true_and, and_true, beq_true, beq_false, Bool.true_beq, Bool.false_beq, BEq.rfl, Int.reduceEq, Int.reduceLT, Int.reduceLE, Nat.reduceEqDiff, decide_true, decide_false, Bool.not_true, Bool.not_false, Bool.and_true, Bool.true_and, Bool.and_false, Bool.false_and, Bool.or_true, Bool.true_or, Bool.or_false, Bool.false_or, Bool.not_not]
  refine s_table_open (d := d) fun tp => ?_
  have hst := tOpen_steps (d := d) (r := root)
  generalize tOpen d root = m at hK hst ⊢
  obtain ⟨d1, t⟩ := m
  simp only at hK hst ⊢
  refine s_draft_OK (d := d1) ?_
  by_cases h1 : d1.err = 0
  · by_cases h2 : t.head = 0
    · rw [if_neg (fun h => h.2 h2)] at hK
      try simp (maxSteps := 2000000) only [↓RG, RP, true_and, and_true, beq_true, beq_false, Bool.true_beq, Bool.false_beq, BEq.rfl, Int.reduceEq, Int.reduceLT, Int.reduceLE, Nat.reduceEqDiff, decide_true, decide_false, Bool.not_true, Bool.not_false, Bool.and_true, Bool.true_and, Bool.and_false, Bool.false_and, Bool.or_true, Bool.true_or, Bool.or_false, Bool.false_or, Bool.not_not, eq_true h1, eq_true h2]
      exact hK.sub
    · rw [if_pos ⟨h1, h2⟩] at hK
      try simp (maxSteps := 2000000) only [↓RG, RP, true_and, and_true, beq_true, beq_false, Bool.true_beq, Bool.false_beq, BEq.rfl, Int.reduceEq, Int.reduceLT, Int.reduceLE, Nat.reduceEqDiff, decide_true, decide_false, Bool.not_true, Bool.not_false, Bool.and_true, Bool.true_and, Bool.and_false, Bool.false_and, Bool.or_true, Bool.true_or, Bool.or_false, Bool.false_or, Bool.not_not, eq_true h1, h2]
      refine s_table_seek (b := b) (d := d1) (t := t) (m := 0) (hs.eq hst) (by omega) ?_
      generalize tSeek d1 t k = s at hK ⊢
      obtain ⟨d2, link, at_⟩ := s
      simp only at hK ⊢
      by_cases h3 : at_ = 0
      · rw [if_pos h3] at hK
        subst h3
        repeat' (first | (with_reducible refine G.joini0 ?_) | (with_reducible refine G.joini1 ?_) | (with_reducible refine G.drew ?_) | (simp (maxSteps := 2000000) only [↓RG, RP, true_and, and_true, beq_true, beq_false, Bool.true_beq, Bool.false_beq, BEq.rfl, Int.reduceEq, Int.reduceLT, Int.reduceLE, Nat.reduceEqDiff, decide_true, decide_false, Bool.not_true, Bool.not_false, Bool.and_true, Bool.true_and, Bool.and_false, Bool.false_and, Bool.or_true, Bool.true_or, Bool.or_false, Bool.false_or, Bool.not_not]))
        exact hK.sub
      · rw [if_neg h3] at hK
        repeat' (first | (with_reducible refine G.joini0 ?_) | (with_reducible refine G.joini1 ?_) | (with_reducible refine G.drew ?_) | (simp (maxSteps := 2000000) only [↓RG, RP, true_and, and_true, beq_true, beq_false, Bool.true_beq, Bool.false_beq, BEq.rfl, Int.reduceEq, Int.reduceLT, Int.reduceLE, Nat.reduceEqDiff, decide_true, decide_false, Bool.not_true, Bool.not_false, Bool.and_true, Bool.true_and, Bool.and_false, Bool.false_and, Bool.or_true, Bool.true_or, Bool.or_false, Bool.false_or, Bool.not_not, h3]))
        refine s_draft_Read (d := d2) ?_
        repeat' (first | (with_reducible refine G.joini0 ?_) | (with_reducible refine G.joini1 ?_) | (with_reducible refine G.drew ?_) | (simp (maxSteps := 2000000) only [↓RG, RP, true_and, and_true, beq_true, beq_false, Bool.true_beq, Bool.false_beq, BEq.rfl, Int.reduceEq, Int.reduceLT, Int.reduceLE, Nat.reduceEqDiff, decide_true, decide_false, Bool.not_true, Bool.not_false, Bool.and_true, Bool.true_and, Bool.and_false, Bool.false_and, Bool.or_true, Bool.true_or, Bool.or_false, Bool.false_or, Bool.not_not]))
        exact hK.sub
  · rw [if_neg (fun h => h1 h.1)] at hK
    try simp (maxSteps := 2000000) only [↓RG, RP, true_and, and_true, beq_true, beq_false, Bool.true_beq, Bool.false_beq, BEq.rfl, Int.reduceEq, Int.reduceLT, Int.reduceLE, Nat.reduceEqDiff, decide_true, decide_false, Bool.not_true, Bool.not_false, Bool.and_true, Bool.true_and, Bool.and_false, Bool.false_and, Bool.or_true, Bool.true_or, Bool.or_false, Bool.false_or, Bool.not_not, h1]
    exact hK.sub

end
end Go.Proofs.Ytokbiojkpldfeaa.S
