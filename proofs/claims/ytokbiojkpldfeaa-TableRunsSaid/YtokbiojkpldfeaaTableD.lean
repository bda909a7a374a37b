/-
  CHAPTER 18: package table: the calls.
-/
import Derived.Test.YtokbiojkpldfeaaTableC
namespace Go.Proofs.Ytokbiojkpldfeaa.S
open Go Go.Proofs
set_option linter.unusedVariables false
set_option linter.unusedSimpArgs false

/-! ### the levels stay (turned from what is freed) -/
theorem lPuts_up : ∀ {l : List TCell} {s : LvS}, (lPuts s l).1.up = s.up
  | [], s => rfl
  | c :: l, s => by
    unfold lPuts
    split
    · rw [lPuts_up]; rfl
    · rfl
theorem vTake_up {s : VwS} {l : List TCell} : (vTake s l).1.l.up = s.l.up := by
  unfold vTake
  split
  · show (lTake s.l l).1.up = _
    unfold lTake
    split
    · exact lPuts_up
    · rfl
  · rfl
theorem vWrite_up {s : VwS} {a x : Int} : (vWrite s a x).1.l.up = s.l.up := by
  unfold vWrite
  split
  · show (lPut s.l a x).1.up = _
    unfold lPut
    split <;> rfl
  · rfl
theorem vRead_up {s : VwS} {a : Int} : (vRead s a).1.l.up = s.l.up := by rw [vRead_l]
theorem aAgain_up {s : VwS} {c b : Int} : (aAgain s c b).1.l.up = s.l.up := by
  unfold aAgain
  split
  · rfl
  · split
    · split <;> (simp only; rw [vTake_up, vRead_up])
    · exact vRead_up
theorem aGrown_up {s : VwS} {c : Int} : (aGrown s c).1.l.up = s.l.up := by
  unfold aGrown
  split
  · split
    · exact vRead_up
    · split <;> (simp only; rw [vTake_up, vRead_up])
  · exact vRead_up
theorem aAlloc_up {s : VwS} {n : Int} : (aAlloc s n).1.l.up = s.l.up := by
  unfold aAlloc
  split
  · rfl
  · split
    · split
      · rw [aGrown_up, vRead_up]
      · rw [aAgain_up, vRead_up]
    · exact vRead_up
abbrev DrS.up (d : DrS) : List Lv := d.v.l.up
theorem dFail_up {d : DrS} {e : Int} : (dFail d e).up = d.up := by unfold dFail; split <;> rfl
theorem dRead_up {d : DrS} {a : Int} : (dRead d a).1.up = d.up := by
  unfold dRead
  split
  · rw [dFail_up]; exact vRead_up
  · rfl
theorem dName_up {d : DrS} {a : Int} : (dName d a).1.up = d.up := by unfold dName; split <;> first | exact dFail_up | rfl
theorem dPlace_up {d : DrS} {a : Int} : (dPlace d a).1.up = d.up := by unfold dPlace; rw [dName_up, dRead_up]
theorem dWrite_up {d : DrS} {a x : Int} : (dWrite d a x).up = d.up := by
  unfold dWrite
  split
  · rw [dFail_up]; exact vWrite_up
  · rfl
theorem dPoint_up {d : DrS} {a x : Int} : (dPoint d a x).up = d.up := dWrite_up
theorem dAlloc_up {d : DrS} {a : Int} : (dAlloc d a).1.up = d.up := by
  unfold dAlloc
  split
  · rw [dFail_up]; exact aAlloc_up
  · rfl
theorem dStep_up {d : DrS} : (dStep d).up = d.up := by unfold dStep; split <;> first | exact dFail_up | rfl
theorem seekN_up {k : Int} : ∀ {n : Nat} {d : DrS} {l : Int}, (seekN k n d l).1.up = d.up
  | 0, d, l => rfl
  | n + 1, d, l => by
    unfold seekN
    split
    · split
      · rw [dPlace_up, dStep_up]
      · split
        · rw [dRead_up, dPlace_up, dStep_up]
        · rw [seekN_up, dRead_up, dPlace_up, dStep_up]
    · exact dStep_up
theorem tSeek_up {d : DrS} {t : TbS} {k : Int} : (tSeek d t k).1.up = d.up := seekN_up
theorem tOpen_up {d : DrS} {r : Int} : (tOpen d r).1.up = d.up := by
  unfold tOpen
  split
  · exact dPlace_up
  · simp only
    rw [dPlace_up]
    split
    · rw [dFail_up, dRead_up, dRead_up, dPlace_up]
    · rw [dRead_up, dRead_up, dPlace_up]
theorem tMade_up {d : DrS} {r : Int} : (tMade d r).1.up = d.up := by
  unfold tMade
  simp only [dPoint_up, dAlloc_up]
theorem inN_up {σ : Type} {f : σ → DrS → Int → σ × DrS} (hf : ∀ s d a, (f s d a).2.up = d.up) : ∀ {n : Nat} {s : σ} {d : DrS} {a : Int}, (inN f n s d a).2.up = d.up
  | 0, s, d, a => rfl
  | n + 1, s, d, a => by
    unfold inN
    split
    · rfl
    · split
      · rw [inN_up hf, hf, dPlace_up, dStep_up]
      · exact dStep_up
theorem eachN_up {σ : Type} {f : σ → DrS → Int → σ × DrS} (hf : ∀ s d a, (f s d a).2.up = d.up) {t : TbS} : ∀ {n i : Nat} {s : σ} {d : DrS}, (eachN f t n i s d).2.up = d.up
  | 0, i, s, d => rfl
  | n + 1, i, s, d => by
    unfold eachN
    simp only
    rw [eachN_up hf, inN_up hf, dPlace_up]
theorem tEach_up {σ : Type} {f : σ → DrS → Int → σ × DrS} (hf : ∀ s d a, (f s d a).2.up = d.up) {t : TbS} {s : σ} {d : DrS} : (tEach f t s d).2.up = d.up := eachN_up hf

theorem growF_up {w : Int} {s : List Int} {d : DrS} {a : Int} : (growF w s d a).2.up = d.up := by unfold growF; simp only; rw [dPoint_up, dRead_up]
theorem pts_up {to : Int} {first : List Int} {d : DrS} : ∀ {k : Nat}, (pts to first k d).up = d.up
  | 0 => rfl
  | k + 1 => by unfold pts; rw [dPoint_up, pts_up]
theorem tAt_up {d : DrS} {r : Int} : (tAt d r).1.up = d.up := by
  unfold tAt
  split
  · rw [tMade_up, tOpen_up]
  · exact tOpen_up

theorem aFree_up {s : VwS} {n : Int} : (aFree s n).1.l.up = s.l.up := by
  unfold aFree aFreeIn
  split
  · split
    · split
      · show (vTake (aAsked s n).1 _).1.l.up = _
        rw [vTake_up, aAsked_l]
      · rw [vTake_up, aAsked_l]
    · simp only; rw [aAsked_l]
  · simp only; rw [aAsked_l]
theorem aFree_rf {s : VwS} {n : Int} : (aFree s n).1.l.r.f.length ≤ s.l.r.f.length + 1 := by
  unfold aFree aFreeIn
  split
  · split
    · split
      · show ((vTake (aAsked s n).1 _).1.l.r.f ++ [n]).length ≤ _
        rw [vTake_rf, aAsked_l]; simp
      · rw [vTake_rf, aAsked_l]; omega
    · simp only; rw [aAsked_l]; omega
  · simp only; rw [aAsked_l]; omega
theorem dFree_up {d : DrS} {n : Int} : (dFree d n).up = d.up := by
  unfold dFree
  split
  · rw [dFail_up]; exact aFree_up
  · rfl
theorem dFree_rf {d : DrS} {n : Int} : (dFree d n).rf.length ≤ d.rf.length + 1 := by
  unfold dFree
  split
  · rw [dFail_rf]; exact aFree_rf
  · omega
theorem tGrow_up {d : DrS} {t : TbS} : (tGrow d t).1.up = d.up := by
  unfold tGrow
  simp only
  rw [dPoint_up, dPoint_up, dFree_up, pts_up, tEach_up (fun s d a => growF_up), dAlloc_up]
theorem tGrow_rf {d : DrS} {t : TbS} : (tGrow d t).1.rf.length ≤ d.rf.length + 1 := by
  unfold tGrow
  simp only
  rw [dPoint_rf, dPoint_rf]
  refine Nat.le_trans dFree_rf ?_
  rw [pts_rf, tEach_rf (fun s d a => growF_rf), dAlloc_rf]
  exact Nat.le_refl _
theorem putGrow_up {d : DrS} {t : TbS} {l k : Int} : (putGrow d t l k).1.up = d.up := by
  unfold putGrow
  split
  · simp only; rw [tSeek_up, tGrow_up]
  · rfl
theorem putGrow_rf {d : DrS} {t : TbS} {l k : Int} : (putGrow d t l k).1.rf.length ≤ d.rf.length + 1 := by
  unfold putGrow
  split
  · simp only; rw [tSeek_rf]; exact tGrow_rf
  · show d.rf.length ≤ _; omega
theorem putEnd_up {d : DrS} {t : TbS} {l k x : Int} : (putEnd d t l k x).up = d.up := by
  unfold putEnd
  rw [dWrite_up, dPoint_up, dPoint_up, dWrite_up, dWrite_up, dAlloc_up]
theorem putEnd_rf {d : DrS} {t : TbS} {l k x : Int} : (putEnd d t l k x).rf = d.rf := by
  unfold putEnd
  rw [dWrite_rf, dPoint_rf, dPoint_rf, dWrite_rf, dWrite_rf, dAlloc_rf]
theorem tPut1_up {root k x : Int} {d : DrS} : (tPut1 root k x d).1.up = d.up := by
  unfold tPut1
  split
  · split
    · simp only; rw [putEnd_up, putGrow_up, tSeek_up, tAt_up]
    · simp only; rw [dWrite_up, tSeek_up, tAt_up]
  · exact tAt_up
theorem tPut1_rf {root k x : Int} {d : DrS} : (tPut1 root k x d).1.rf.length ≤ d.rf.length + 1 := by
  unfold tPut1
  split
  · split
    · simp only; rw [putEnd_rf]
      refine Nat.le_trans putGrow_rf ?_
      rw [tSeek_rf, tAt_rf]; exact Nat.le_refl _
    · simp only; rw [dWrite_rf, tSeek_rf, tAt_rf]; omega
  · simp only; rw [tAt_rf]; omega
theorem tGet1_up {root k : Int} {d : DrS} : (tGet1 root k d).1.up = d.up := by
  unfold tGet1
  split
  · split
    · simp only; rw [tSeek_up, tOpen_up]
    · simp only; rw [dRead_up, tSeek_up, tOpen_up]
  · exact tOpen_up
theorem tGet1_rf {root k : Int} {d : DrS} : (tGet1 root k d).1.rf = d.rf := by
  unfold tGet1
  split
  · split
    · simp only; rw [tSeek_rf, tOpen_rf]
    · simp only; rw [dRead_rf, tSeek_rf, tOpen_rf]
  · exact tOpen_rf
theorem tDel1_up {root k : Int} {d : DrS} : (tDel1 root k d).1.up = d.up := by
  unfold tDel1
  split
  · split
    · simp only; rw [tSeek_up, tOpen_up]
    · unfold cutOut; simp only; rw [dFree_up, dWrite_up, dWrite_up, dRead_up, tSeek_up, tOpen_up]
  · exact tOpen_up
theorem tDel1_rf {root k : Int} {d : DrS} : (tDel1 root k d).1.rf.length ≤ d.rf.length + 1 := by
  unfold tDel1
  split
  · split
    · simp only; rw [tSeek_rf, tOpen_rf]; omega
    · unfold cutOut; simp only
      refine Nat.le_trans dFree_rf ?_
      rw [dWrite_rf, dWrite_rf, dRead_rf, tSeek_rf, tOpen_rf]; exact Nat.le_refl _
  · simp only; rw [tOpen_rf]; omega
theorem knowAll_l {l : List TCell} : ∀ {s : VwS}, (knowAll s l).l = s.l := by
  induction l with
  | nil => intro s; rfl
  | cons c l ih =>
    intro s
    show (knowAll (vKnow s c.place c.word).1 l).l = _
    rw [ih]
    unfold vKnow
    split
    · split <;> rfl
    · rfl
theorem dOf_l {s : VwS} : (dOf s).l = ⟨96, ⟨[], []⟩, []⟩ := by unfold dOf; rw [knowAll_l, knowAll_l]; rfl
theorem frees_one {s : LvS} (h : s.up = []) : s.frees = s.r.f := by unfold LvS.frees freesR; rw [h]; simp
/-- a draft's frees: few -/
theorem few_frees {d : DrS} (hu : d.up = []) {n : Nat} (hf : d.rf.length ≤ n) : d.v.l.frees.length ≤ n := by rw [frees_one hu]; exact hf

/-! ### the calls -/
abbrev dr0 (s : VwS) : DrS := ⟨dOf s, 0, 0⟩
def badRoot (root : Int) : Bool := decide (root < 6) || decide (14 ≤ root)
def tPut (s : VwS) (root k x : Int) : VwS × Bool × Int := if badRoot root = true then (s, false, 2) else ((dEnd s (tPut1 root k x (dr0 s)).1).1, (tPut1 root k x (dr0 s)).2 && decide ((dEnd s (tPut1 root k x (dr0 s)).1).2 = 0), (dEnd s (tPut1 root k x (dr0 s)).1).2)
def tGet (s : VwS) (root k : Int) : VwS × Int × Bool × Int := if badRoot root = true then (s, 0, false, 2) else
  if (dEnd s (tGet1 root k (dr0 s)).1).2 = 0 then ((dEnd s (tGet1 root k (dr0 s)).1).1, (tGet1 root k (dr0 s)).2.1, (tGet1 root k (dr0 s)).2.2, 0) else ((dEnd s (tGet1 root k (dr0 s)).1).1, 0, false, (dEnd s (tGet1 root k (dr0 s)).1).2)
def tDel (s : VwS) (root k : Int) : VwS × Bool × Int := if badRoot root = true then (s, false, 2) else ((dEnd s (tDel1 root k (dr0 s)).1).1, (tDel1 root k (dr0 s)).2 && decide ((dEnd s (tDel1 root k (dr0 s)).1).2 = 0), (dEnd s (tDel1 root k (dr0 s)).1).2)
def tLen (s : VwS) (root : Int) : VwS × Int × Int := if badRoot root = true then (s, 0, 2) else
  if (dEnd s (tLen1 root (dr0 s)).1).2 = 0 then ((dEnd s (tLen1 root (dr0 s)).1).1, (tLen1 root (dr0 s)).2, 0) else ((dEnd s (tLen1 root (dr0 s)).1).1, 0, (dEnd s (tLen1 root (dr0 s)).1).2)

theorem dr0_ok {s : VwS} : StOk (dr0 s) 0 := ⟨Int.le_refl _, by show (0 : Int) ≤ _; omega⟩
theorem dr0_up {s : VwS} : (dr0 s).up = [] := by show (dOf s).l.up = []; rw [dOf_l]
theorem dr0_rf {s : VwS} : (dr0 s).rf = [] := by show (dOf s).l.r.f = []; rw [dOf_l]
theorem badRoot_iff {root : Int} : badRoot root = true ↔ root < 6 ∨ 14 ≤ root := by simp [badRoot]

section
variable {w0 : Base} {L M : List Asn} {K : KV} {F : World → Prop} {C : Asn → List Asn} {b : Nat} {s : VwS} {n a x e w k root : Int}

theorem s_table_Put [i : SelOb L ViewR b s C] (hs : s.l.r.f.length ≤ 1000) (hK : G w0 (C (ob ViewR b (tPut s root k x).1)) (K (.tuple #[.bool (tPut s root k x).2.1, i64 (tPut s root k x).2.2]))) : G w0 L (CP Try.prog Fn.table_Put [ptr b 0, i64 root, u64 k, u64 x] K) := by
  refine i.use (fun M hK => ?_) hK
  refine C_table_Put ?_
  unfold S_table_Put
  try simp (maxSteps := 2000000) only [fuse_and, fuse_or, fuse_step, fuse_pair, fuse_in, andP_true]
  refine G.box fun x1 => ?_
  refine G.box fun x2 => ?_
  refine G.box fun x3 => ?_
  refine G.new fun x4 => ?_
  try simp (maxSteps := 2000000) only [↓RG, RP, true_and, and_true, beq_true, beq_false, Bool.true_beq, Bool.false_beq, BEq.rfl, Int.reduceEq, Int.reduceLT, Int.reduceLE, Nat.reduceEqDiff, decide_true, decide_false, Bool.not_true, Bool.not_false, Bool.and_true, Bool.true_and, Bool.and_false, Bool.false_and, Bool.or_true, Bool.true_or, Bool.or_false, Bool.false_or, Bool.not_not]
  have hrf := tPut1_rf (root := root) (k := k) (x := x) (d := dr0 s)
  have hup := tPut1_up (root := root) (k := k) (x := x) (d := dr0 s)
  rw [dr0_rf] at hrf
  rw [dr0_up] at hup
  refine s_draft_Do (s := s) (f := fun d => (tPut1 root k x d).1) (M := own x4 [.bool (tPut1 root k x (dr0 s)).2] :: own x3 [u64 x] :: own x2 [u64 k] :: own x1 [i64 root] :: ob ViewR b s :: M) (few_frees hup (by simp at hrf; omega)) (by omega) (fun c K' hK' => ?_) (fun hb => ?_) (fun hb => ?_)
  · show G w0 _ (CP Try.prog Fn.table_Put_1 [ptr c 0, ptr x1 0, ptr x2 0, ptr x3 0, ptr x4 0] K')
    refine G.pickAll (As := [own x4 [.bool false], ob DraftR c (dr0 s), own x1 [i64 root], own x2 [u64 k], own x3 [u64 x]]) ?_
    refine s_Put_1 (M := ob ViewR b s :: M) dr0_ok (by rw [dr0_rf]; simp) ?_
    exact hK'.sub
  · have e : tPut s root k x = (s, false, 2) := by unfold tPut; rw [if_pos (badRoot_iff.2 hb)]
    rw [e] at hK
    try simp (maxSteps := 2000000) only [↓RG, RP, true_and, and_true, beq_true, beq_false, Bool.true_beq, Bool.false_beq, BEq.rfl, Int.reduceEq, Int.reduceLT, Int.reduceLE, Nat.reduceEqDiff, decide_true, decide_false, Bool.not_true, Bool.not_false, Bool.and_true, Bool.true_and, Bool.and_false, Bool.false_and, Bool.or_true, Bool.true_or, Bool.or_false, Bool.false_or, Bool.not_not]
    exact hK.sub
  · have e : tPut s root k x = ((dEnd s (tPut1 root k x (dr0 s)).1).1, (tPut1 root k x (dr0 s)).2 && decide ((dEnd s (tPut1 root k x (dr0 s)).1).2 = 0), (dEnd s (tPut1 root k x (dr0 s)).1).2) := by unfold tPut; rw [if_neg (fun h => hb (badRoot_iff.1 h))]
    rw [e] at hK
    simp only at hK ⊢
    cases ht : (tPut1 root k x (dr0 s)).2
    · rw [ht] at hK
      try simp (maxSteps := 2000000) only [↓RG, RP, true_and, and_true, beq_true, beq_false, Bool.true_beq, Bool.false_beq, BEq.rfl, Int.reduceEq, Int.reduceLT, Int.reduceLE, Nat.reduceEqDiff, decide_true, decide_false, Bool.not_true, Bool.not_false, Bool.and_true, Bool.true_and, Bool.and_false, Bool.false_and, Bool.or_true, Bool.true_or, Bool.or_false, Bool.false_or, Bool.not_not]
      exact hK.sub
    · rw [ht] at hK
      simp only [Bool.true_and] at hK
      try simp (maxSteps := 2000000) only [↓RG, RP, true_and, and_true, beq_true, beq_false, Bool.true_beq, Bool.false_beq, BEq.rfl, Int.reduceEq, Int.reduceLT, Int.reduceLE, Nat.reduceEqDiff, decide_true, decide_false, Bool.not_true, Bool.not_false, Bool.and_true, Bool.true_and, Bool.and_false, Bool.false_and, Bool.or_true, Bool.true_or, Bool.or_false, Bool.false_or, Bool.not_not]
      exact hK.sub

theorem s_table_Get [i : SelOb L ViewR b s C] (hs : s.l.r.f.length ≤ 1000) (hK : G w0 (C (ob ViewR b (tGet s root k).1)) (K (.tuple #[u64 (tGet s root k).2.1, .bool (tGet s root k).2.2.1, i64 (tGet s root k).2.2.2]))) : G w0 L (CP Try.prog Fn.table_Get [ptr b 0, i64 root, u64 k] K) := by
  refine i.use (fun M hK => ?_) hK
  refine C_table_Get ?_
  unfold S_table_Get
  refine G.box fun x1 => ?_
  refine G.box fun x2 => ?_
  refine G.new fun x3 => ?_
  refine G.new fun x4 => ?_
  try simp (maxSteps := 2000000) only [↓RG, RP, true_and, and_true, beq_true, beq_false, Bool.true_beq, Bool.false_beq, BEq.rfl, Int.reduceEq, Int.reduceLT, Int.reduceLE, Nat.reduceEqDiff, decide_true, decide_false, Bool.not_true, Bool.not_false, Bool.and_true, Bool.true_and, Bool.and_false, Bool.false_and, Bool.or_true, Bool.true_or, Bool.or_false, Bool.false_or, Bool.not_not]
  have hrf := tGet1_rf (root := root) (k := k) (d := dr0 s)
  have hup := tGet1_up (root := root) (k := k) (d := dr0 s)
  rw [dr0_rf] at hrf
  rw [dr0_up] at hup
  refine s_draft_Do (s := s) (f := fun d => (tGet1 root k d).1) (M := own x3 [u64 (tGet1 root k (dr0 s)).2.1] :: own x4 [.bool (tGet1 root k (dr0 s)).2.2] :: own x2 [u64 k] :: own x1 [i64 root] :: ob ViewR b s :: M) (few_frees hup (by rw [hrf]; simp)) (by omega) (fun c K' hK' => ?_) (fun hb => ?_) (fun hb => ?_)
  · show G w0 _ (CP Try.prog Fn.table_Get_1 [ptr c 0, ptr x1 0, ptr x2 0, ptr x3 0, ptr x4 0] K')
    refine G.pickAll (As := [own x3 [u64 0], own x4 [.bool false], ob DraftR c (dr0 s), own x1 [i64 root], own x2 [u64 k]]) ?_
    refine s_Get_1 (M := ob ViewR b s :: M) dr0_ok ?_
    exact hK'.sub
  · have e : tGet s root k = (s, 0, false, 2) := by unfold tGet; rw [if_pos (badRoot_iff.2 hb)]
    rw [e] at hK
    try simp (maxSteps := 2000000) only [↓RG, RP, true_and, and_true, beq_true, beq_false, Bool.true_beq, Bool.false_beq, BEq.rfl, Int.reduceEq, Int.reduceLT, Int.reduceLE, Nat.reduceEqDiff, decide_true, decide_false, Bool.not_true, Bool.not_false, Bool.and_true, Bool.true_and, Bool.and_false, Bool.false_and, Bool.or_true, Bool.true_or, Bool.or_false, Bool.false_or, Bool.not_not]
    exact hK.sub
  · unfold tGet at hK
    rw [if_neg (fun h => hb (badRoot_iff.1 h))] at hK
    generalize dEnd s (tGet1 root k (dr0 s)).1 = r at hK ⊢
    obtain ⟨s2, er⟩ := r
    simp only at hK ⊢
    by_cases he : er = 0
    · rw [if_pos he] at hK
      try simp (maxSteps := 2000000) only [↓RG, RP, true_and, and_true, beq_true, beq_false, Bool.true_beq, Bool.false_beq, BEq.rfl, Int.reduceEq, Int.reduceLT, Int.reduceLE, Nat.reduceEqDiff, decide_true, decide_false, Bool.not_true, Bool.not_false, Bool.and_true, Bool.true_and, Bool.and_false, Bool.false_and, Bool.or_true, Bool.true_or, Bool.or_false, Bool.false_or, Bool.not_not, eq_true he]
      refine G.drew ?_
      try simp (maxSteps := 2000000) only [↓RG, RP, true_and, and_true, beq_true, beq_false, Bool.true_beq, Bool.false_beq, BEq.rfl, Int.reduceEq, Int.reduceLT, Int.reduceLE, Nat.reduceEqDiff, decide_true, decide_false, Bool.not_true, Bool.not_false, Bool.and_true, Bool.true_and, Bool.and_false, Bool.false_and, Bool.or_true, Bool.true_or, Bool.or_false, Bool.false_or, Bool.not_not]
      exact hK.sub
    · rw [if_neg he] at hK
      try simp (maxSteps := 2000000) only [↓RG, RP, true_and, and_true, beq_true, beq_false, Bool.true_beq, Bool.false_beq, BEq.rfl, Int.reduceEq, Int.reduceLT, Int.reduceLE, Nat.reduceEqDiff, decide_true, decide_false, Bool.not_true, Bool.not_false, Bool.and_true, Bool.true_and, Bool.and_false, Bool.false_and, Bool.or_true, Bool.true_or, Bool.or_false, Bool.false_or, Bool.not_not, he]
      exact hK.sub

theorem tLen1_up {d : DrS} : (tLen1 root d).1.up = d.up := tOpen_up
theorem tLen1_rf {d : DrS} : (tLen1 root d).1.rf = d.rf := tOpen_rf

end
end Go.Proofs.Ytokbiojkpldfeaa.S
