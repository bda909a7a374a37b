/-
  CHAPTER 18: package table: grow, the calls' own functions.
-/
import Derived.Test.YtokbiojkpldfeaaTable
namespace Go.Proofs.Ytokbiojkpldfeaa.S
open Go Go.Proofs
set_option linter.unusedVariables false
set_option linter.unusedSimpArgs false

theorem iAnd_le {a w : Int} (h : 0 ≤ w) (h2 : w ≤ 1000000) : 0 ≤ iAnd a w ∧ iAnd a w ≤ w := by
  unfold iAnd
  have e : (BitVec.ofInt IntKind.i64.bits w).toNat = w.toNat := by
    rw [BitVec.toNat_ofInt]
    show (w % (2 ^ 64 : Nat)).toNat = _
    omega
  have h3 : (BitVec.ofInt IntKind.i64.bits a &&& BitVec.ofInt IntKind.i64.bits w).toNat ≤ w.toNat := by
    rw [BitVec.toNat_and, e]; exact Nat.and_le_right
  rw [wi64 (by omega) (by omega)]
  omega
theorem tChain_lt {k w : Int} (h : 1 ≤ w) (h2 : w ≤ 1000) : 0 ≤ tChain k w ∧ tChain k w < w := by
  unfold tChain
  have e : w64 (w - 1) = w - 1 := wi64 (by omega) (by omega)
  rw [e]
  have := iAnd_le (a := w64 ((wU (k * 11400714819323198485)).fdiv (2 ^ min (60 : Int).toNat IntKind.u64.bits))) (w := w - 1) (by omega) (by omega)
  omega

/-! ### what is freed stays -/
theorem vWrite_rf {s : VwS} {a x : Int} : (vWrite s a x).1.l.r.f = s.l.r.f := by
  unfold vWrite
  split
  · show (lPut s.l a x).1.r.f = _
    unfold lPut
    split <;> rfl
  · rfl
theorem vRead_rf {s : VwS} {a : Int} : (vRead s a).1.l.r.f = s.l.r.f := by rw [vRead_l]
theorem aAgain_rf {s : VwS} {c b : Int} : (aAgain s c b).1.l.r.f = s.l.r.f := by
  unfold aAgain
  split
  · rfl
  · split
    · split <;> (simp only; rw [vTake_rf, vRead_rf])
    · exact vRead_rf
theorem aGrown_rf {s : VwS} {c : Int} : (aGrown s c).1.l.r.f = s.l.r.f := by
  unfold aGrown
  split
  · split
    · exact vRead_rf
    · split <;> (simp only; rw [vTake_rf, vRead_rf])
  · exact vRead_rf
theorem aAlloc_rf {s : VwS} {n : Int} : (aAlloc s n).1.l.r.f = s.l.r.f := by
  unfold aAlloc
  split
  · rfl
  · split
    · split
      · rw [aGrown_rf, vRead_rf]
      · rw [aAgain_rf, vRead_rf]
    · exact vRead_rf
abbrev DrS.rf (d : DrS) : List Int := d.v.l.r.f
theorem dFail_rf {d : DrS} {e : Int} : (dFail d e).rf = d.rf := by unfold dFail; split <;> rfl
theorem dRead_rf {d : DrS} {a : Int} : (dRead d a).1.rf = d.rf := by
  unfold dRead
  split
  · rw [dFail_rf]; exact vRead_rf
  · rfl
theorem dName_rf {d : DrS} {a : Int} : (dName d a).1.rf = d.rf := by unfold dName; split <;> first | exact dFail_rf | rfl
theorem dPlace_rf {d : DrS} {a : Int} : (dPlace d a).1.rf = d.rf := by unfold dPlace; rw [dName_rf, dRead_rf]
theorem dWrite_rf {d : DrS} {a x : Int} : (dWrite d a x).rf = d.rf := by
  unfold dWrite
  split
  · rw [dFail_rf]; exact vWrite_rf
  · rfl
theorem dPoint_rf {d : DrS} {a x : Int} : (dPoint d a x).rf = d.rf := dWrite_rf
theorem dAlloc_rf {d : DrS} {a : Int} : (dAlloc d a).1.rf = d.rf := by
  unfold dAlloc
  split
  · rw [dFail_rf]; exact aAlloc_rf
  · rfl
theorem dStep_rf {d : DrS} : (dStep d).rf = d.rf := by unfold dStep; split <;> first | exact dFail_rf | rfl
theorem seekN_rf {k : Int} : ∀ {n : Nat} {d : DrS} {l : Int}, (seekN k n d l).1.rf = d.rf
  | 0, d, l => rfl
  | n + 1, d, l => by
    unfold seekN
    split
    · split
      · rw [dPlace_rf, dStep_rf]
      · split
        · rw [dRead_rf, dPlace_rf, dStep_rf]
        · rw [seekN_rf, dRead_rf, dPlace_rf, dStep_rf]
    · exact dStep_rf
theorem tSeek_rf {d : DrS} {t : TbS} {k : Int} : (tSeek d t k).1.rf = d.rf := seekN_rf
theorem tOpen_rf {d : DrS} {r : Int} : (tOpen d r).1.rf = d.rf := by
  unfold tOpen
  split
  · exact dPlace_rf
  · simp only
    rw [dPlace_rf]
    split
    · rw [dFail_rf, dRead_rf, dRead_rf, dPlace_rf]
    · rw [dRead_rf, dRead_rf, dPlace_rf]
theorem tMade_rf {d : DrS} {r : Int} : (tMade d r).1.rf = d.rf := by
  unfold tMade
  simp only [dPoint_rf, dAlloc_rf]
theorem inN_rf {σ : Type} {f : σ → DrS → Int → σ × DrS} (hf : ∀ s d a, (f s d a).2.rf = d.rf) : ∀ {n : Nat} {s : σ} {d : DrS} {a : Int}, (inN f n s d a).2.rf = d.rf
  | 0, s, d, a => rfl
  | n + 1, s, d, a => by
    unfold inN
    split
    · rfl
    · split
      · rw [inN_rf hf, hf, dPlace_rf, dStep_rf]
      · exact dStep_rf
theorem eachN_rf {σ : Type} {f : σ → DrS → Int → σ × DrS} (hf : ∀ s d a, (f s d a).2.rf = d.rf) {t : TbS} : ∀ {n i : Nat} {s : σ} {d : DrS}, (eachN f t n i s d).2.rf = d.rf
  | 0, i, s, d => rfl
  | n + 1, i, s, d => by
    unfold eachN
    simp only
    rw [eachN_rf hf, inN_rf hf, dPlace_rf]
theorem tEach_rf {σ : Type} {f : σ → DrS → Int → σ × DrS} (hf : ∀ s d a, (f s d a).2.rf = d.rf) {t : TbS} {s : σ} {d : DrS} : (tEach f t s d).2.rf = d.rf := eachN_rf hf

theorem inN_inv {σ : Type} {f : σ → DrS → Int → σ × DrS} {P : σ → Prop} (hf : ∀ s d a, P s → P (f s d a).1) : ∀ {n : Nat} {s : σ} {d : DrS} {a : Int}, P s → P (inN f n s d a).1
  | 0, s, d, a, h => h
  | n + 1, s, d, a, h => by
    unfold inN
    split
    · exact h
    · split
      · exact inN_inv hf (hf _ _ _ h)
      · exact h
theorem eachN_inv {σ : Type} {f : σ → DrS → Int → σ × DrS} {P : σ → Prop} (hf : ∀ s d a, P s → P (f s d a).1) {t : TbS} : ∀ {n i : Nat} {s : σ} {d : DrS}, P s → P (eachN f t n i s d).1
  | 0, i, s, d, h => h
  | n + 1, i, s, d, h => by
    unfold eachN
    simp only
    exact eachN_inv hf (inN_inv hf h)

/-! ### steps behind a walk -/
theorem seekN_steps {k : Int} {m : Nat} (hm : m ≤ 1000000) : ∀ {n : Nat} {d : DrS} {l : Int}, StOk d m → d.steps ≤ (seekN k n d l).1.steps ∧ StOk (seekN k n d l).1 (m + 1)
  | 0, d, l, h => ⟨Int.le_refl _, by unfold StOk at *; show 0 ≤ d.steps ∧ d.steps ≤ _; omega⟩
  | n + 1, d, l, h => by
    have h1 := dStep_steps h hm
    unfold seekN
    split
    · rename_i he
      have hok := dStep_ok h hm he
      have e2 : ∀ d2 : DrS, d2.steps = (dStep d).steps → d.steps ≤ d2.steps ∧ StOk d2 (m + 1) := fun d2 e => by unfold StOk at *; rw [e, h1.1] at *; omega
      split
      · exact e2 _ dPlace_steps
      · split
        · exact e2 _ (by rw [dRead_steps, dPlace_steps])
        · have e3 : (dRead (dPlace (dStep d) l).1 (w64 ((dPlace (dStep d) l).2 + 0))).1.steps = (dStep d).steps := by rw [dRead_steps, dPlace_steps]
          have := seekN_steps (k := k) hm (n := n) (l := w64 ((dPlace (dStep d) l).2 + 2)) (hok.eq e3)
          rw [e3, h1.1] at this
          exact ⟨by omega, this.2⟩
    · unfold StOk at *
      show d.steps ≤ (dStep d).steps ∧ 0 ≤ (dStep d).steps ∧ (dStep d).steps ≤ _
      rw [h1.1]; omega
theorem tSeek_ok {d : DrS} {t : TbS} {k : Int} {m : Nat} (h : StOk d m) (hm : m ≤ 1000000) : StOk (tSeek d t k).1 (m + 1) := (seekN_steps hm h).2
theorem inN_ok {σ : Type} {f : σ → DrS → Int → σ × DrS} (hf : ∀ s d a, (f s d a).2.steps = d.steps) {m : Nat} (hm : m ≤ 1000000) : ∀ {n : Nat} {s : σ} {d : DrS} {a : Int}, StOk d m → StOk (inN f n s d a).2 (m + 1)
  | 0, s, d, a, h => by unfold StOk at *; show 0 ≤ d.steps ∧ d.steps ≤ _; omega
  | n + 1, s, d, a, h => by
    have h1 := dStep_steps h hm
    unfold inN
    split
    · unfold StOk at *; show 0 ≤ d.steps ∧ d.steps ≤ _; omega
    · split
      · rename_i he
        exact inN_ok hf hm ((dStep_ok h hm he).eq (by rw [hf, dPlace_steps]))
      · unfold StOk at *; show 0 ≤ (dStep d).steps ∧ (dStep d).steps ≤ _; rw [h1.1]; omega
theorem eachN_ok {σ : Type} {f : σ → DrS → Int → σ × DrS} (hf : ∀ s d a, (f s d a).2.steps = d.steps) {t : TbS} : ∀ {n i m : Nat} {s : σ} {d : DrS}, m + n ≤ 1000000 → StOk d m → StOk (eachN f t n i s d).2 (m + n)
  | 0, i, m, s, d, hm, h => h
  | n + 1, i, m, s, d, hm, h => by
    unfold eachN
    simp only
    have := eachN_ok hf (t := t) (n := n) (i := i + 1) (m := m + 1) (s := (inN f (fuel (dPlace d (w64 (t.chains + (i : Int)))).1) s (dPlace d (w64 (t.chains + (i : Int)))).1 (dPlace d (w64 (t.chains + (i : Int)))).2).1) (d := (inN f (fuel (dPlace d (w64 (t.chains + (i : Int)))).1) s (dPlace d (w64 (t.chains + (i : Int)))).1 (dPlace d (w64 (t.chains + (i : Int)))).2).2) (by omega) (inN_ok hf (by omega) (h.eq dPlace_steps))
    rwa [show m + 1 + n = m + (n + 1) by omega] at this

/-! ### grow -/
def growF (w : Int) (first : List Int) (d : DrS) (a : Int) : List Int × DrS :=
  (first.set (tChain (dRead d (w64 (a + 0))).2 w).toNat a, dPoint (dRead d (w64 (a + 0))).1 (w64 (a + 2)) (first.getD (tChain (dRead d (w64 (a + 0))).2 w).toNat 0))
/-- the first k of a row are pointed at, from a place on -/
def pts (to : Int) (first : List Int) : Nat → DrS → DrS
  | 0, d => d
  | k + 1, d => dPoint (pts to first k d) (w64 (to + (k : Int))) (first.getD k 0)
def tGrow (d : DrS) (t : TbS) : DrS × TbS :=
  let w := w64 (2 * t.wide)
  let a := dAlloc d w
  let q := tEach (growF w) t (List.replicate w.toNat 0) a.1
  let d3 := dFree (pts a.2 q.1 w.toNat q.2) t.chains
  (dPoint (dPoint d3 (w64 (t.head + 1)) w) (w64 (t.head + 2)) a.2, ⟨t.head, w, a.2, t.keys⟩)
theorem growF_steps {w : Int} {s : List Int} {d : DrS} {a : Int} : (growF w s d a).2.steps = d.steps := by unfold growF; simp only; rw [dPoint_steps, dRead_steps]
theorem growF_rf {w : Int} {s : List Int} {d : DrS} {a : Int} : (growF w s d a).2.rf = d.rf := by unfold growF; simp only; rw [dPoint_rf, dRead_rf]
theorem pts_rf {to : Int} {first : List Int} {d : DrS} : ∀ {k : Nat}, (pts to first k d).rf = d.rf
  | 0 => rfl
  | k + 1 => by unfold pts; rw [dPoint_rf, pts_rf]
theorem pts_steps {to : Int} {first : List Int} {d : DrS} : ∀ {k : Nat}, (pts to first k d).steps = d.steps
  | 0 => rfl
  | k + 1 => by unfold pts; rw [dPoint_steps, pts_steps]
theorem growF_len {w : Int} {s : List Int} {d : DrS} {a : Int} : (growF w s d a).1.length = s.length := by unfold growF; simp

section
variable {w0 : Base} {L M : List Asn} {K : KV} {F : World → Prop} {C : Asn → List Asn} {b tp x1 x7 x11 : Nat} {d : DrS} {t : TbS} {n a x e w : Int}

theorem s_grow_1 {first : List Int} (hw : 1 ≤ w ∧ w ≤ 1000) (hl : (first.length : Int) = w) (hK : G w0 (ob (BoxR intE) x11 (growF w first d a).1 :: ob DraftR b (growF w first d a).2 :: own tp (t.cells b) :: own x1 [ptr tp 0] :: own x7 [i64 w] :: M) (K (.tuple #[]))) :
    G w0 (ob (BoxR intE) x11 first :: ob DraftR b d :: own tp (t.cells b) :: own x1 [ptr tp 0] :: own x7 [i64 w] :: M) (CP Try.prog Fn.table_table_grow_1 [i64 a, ptr x1 0, ptr x7 0, ptr x11 0] K) := by
  refine C_table_table_grow_1 ?_
  unfold S_table_table_grow_1
  unfold growF at hK
  refine G.drew ?_
  try simp (maxSteps := 2000000) only [↓RG, true_and, and_true, beq_true, beq_false, Bool.true_beq, Bool.false_beq, BEq.rfl, Int.reduceEq, Int.reduceLT, Int.reduceLE, Nat.reduceEqDiff, decide_true, decide_false, Bool.not_true, Bool.not_false, Bool.and_true, Bool.true_and, Bool.and_false, Bool.false_and, Bool.or_true, Bool.true_or, Bool.or_false, Bool.false_or, Bool.not_not]
  refine s_draft_Read (d := d) ?_
  generalize dRead d (w64 (a + 0)) = r at hK ⊢
  obtain ⟨d1, k⟩ := r
  simp only at hK ⊢
  try simp (maxSteps := 2000000) only [↓RG, true_and, and_true, beq_true, beq_false, Bool.true_beq, Bool.false_beq, BEq.rfl, Int.reduceEq, Int.reduceLT, Int.reduceLE, Nat.reduceEqDiff, decide_true, decide_false, Bool.not_true, Bool.not_false, Bool.and_true, Bool.true_and, Bool.and_false, Bool.false_and, Bool.or_true, Bool.true_or, Bool.or_false, Bool.false_or, Bool.not_not]
  refine s_table_chain ?_
  have hb := tChain_lt (k := k) hw.1 hw.2
  obtain ⟨j, ej, hj⟩ : ∃ j : Nat, tChain k w = (j : Int) ∧ j < first.length := ⟨(tChain k w).toNat, by omega, by omega⟩
  rw [ej] at hK ⊢
  simp only [Int.toNat_natCast] at hK
  have e := elem_of hj
  have hg : first.getD j 0 = first[j] := by rw [List.getD_eq_getElem?_getD, e.eq]; rfl
  rw [hg] at hK
  try simp (maxSteps := 2000000) only [↓RG, true_and, and_true, beq_true, beq_false, Bool.true_beq, Bool.false_beq, BEq.rfl, Int.reduceEq, Int.reduceLT, Int.reduceLE, Nat.reduceEqDiff, decide_true, decide_false, Bool.not_true, Bool.not_false, Bool.and_true, Bool.true_and, Bool.and_false, Bool.false_and, Bool.or_true, Bool.true_or, Bool.or_false, Bool.false_or, Bool.not_not]
  refine G.drew ?_
  rw [BoxR_open]
  intro v hv
  try simp (maxSteps := 2000000) only [↓RG, true_and, and_true, beq_true, beq_false, Bool.true_beq, Bool.false_beq, BEq.rfl, Int.reduceEq, Int.reduceLT, Int.reduceLE, Nat.reduceEqDiff, decide_true, decide_false, Bool.not_true, Bool.not_false, Bool.and_true, Bool.true_and, Bool.and_false, Bool.false_and, Bool.or_true, Bool.true_or, Bool.or_false, Bool.false_or, Bool.not_not]
  refine s_draft_Point (d := d1) ?_
  try simp (maxSteps := 2000000) only [↓RG, true_and, and_true, beq_true, beq_false, Bool.true_beq, Bool.false_beq, BEq.rfl, Int.reduceEq, Int.reduceLT, Int.reduceLE, Nat.reduceEqDiff, decide_true, decide_false, Bool.not_true, Bool.not_false, Bool.and_true, Bool.true_and, Bool.and_false, Bool.false_and, Bool.or_true, Bool.true_or, Bool.or_false, Bool.false_or, Bool.not_not]
  rw [BoxR_open] at hK
  exact hK v hv

theorem s_table_grow {m wn : Nat} (hs : StOk d m) (hm : m ≤ 900) (hwd : t.wide = 2 ∨ t.wide = 4 ∨ t.wide = 8) (hf : d.rf.length ≤ 1000) [PickAll [own tp (t.cells b), ob DraftR b d] L M] (hK : G w0 (own tp ((tGrow d t).2.cells b) :: ob DraftR b (tGrow d t).1 :: M) (K (.tuple #[]))) : G w0 L (CP Try.prog Fn.table_table_grow [ptr tp 0] K) := by
  refine G.pickAll (As := [own tp (t.cells b), ob DraftR b d]) ?_
  show G w0 (own tp (t.cells b) :: ob DraftR b d :: M) _
  refine C_table_table_grow ?_
  unfold S_table_table_grow
  unfold tGrow at hK
  obtain ⟨wn, ew, hwn, hwn2⟩ : ∃ wn : Nat, w64 (2 * t.wide) = (wn : Int) ∧ 1 ≤ wn ∧ wn ≤ 16 := by
    rcases hwd with h | h | h <;> rw [h] <;> exact ⟨_, rfl, by decide, by decide⟩
  rw [ew] at hK
  simp only [Int.toNat_natCast] at hK
  refine G.box fun x1 => ?_
  try simp (maxSteps := 2000000) only [↓RG, true_and, and_true, beq_true, beq_false, Bool.true_beq, Bool.false_beq, BEq.rfl, Int.reduceEq, Int.reduceLT, Int.reduceLE, Nat.reduceEqDiff, decide_true, decide_false, Bool.not_true, Bool.not_false, Bool.and_true, Bool.true_and, Bool.and_false, Bool.false_and, Bool.or_true, Bool.true_or, Bool.or_false, Bool.false_or, Bool.not_not, ew]
  refine G.new fun x7 => ?_
  try simp (maxSteps := 2000000) only [↓RG, true_and, and_true, beq_true, beq_false, Bool.true_beq, Bool.false_beq, BEq.rfl, Int.reduceEq, Int.reduceLT, Int.reduceLE, Nat.reduceEqDiff, decide_true, decide_false, Bool.not_true, Bool.not_false, Bool.and_true, Bool.true_and, Bool.and_false, Bool.false_and, Bool.or_true, Bool.true_or, Bool.or_false, Bool.false_or, Bool.not_not]
  refine G.make intE 0 rfl (by simp only [maxLen]; omega) (by omega) fun v hv => ?_
  refine G.new fun x11 => ?_
  try simp (maxSteps := 2000000) only [↓RG, true_and, and_true, beq_true, beq_false, Bool.true_beq, Bool.false_beq, BEq.rfl, Int.reduceEq, Int.reduceLT, Int.reduceLE, Nat.reduceEqDiff, decide_true, decide_false, Bool.not_true, Bool.not_false, Bool.and_true, Bool.true_and, Bool.and_false, Bool.false_and, Bool.or_true, Bool.true_or, Bool.or_false, Bool.false_or, Bool.not_not]
  refine G.drew ?_
  try simp (maxSteps := 2000000) only [↓RG, true_and, and_true, beq_true, beq_false, Bool.true_beq, Bool.false_beq, BEq.rfl, Int.reduceEq, Int.reduceLT, Int.reduceLE, Nat.reduceEqDiff, decide_true, decide_false, Bool.not_true, Bool.not_false, Bool.and_true, Bool.true_and, Bool.and_false, Bool.false_and, Bool.or_true, Bool.true_or, Bool.or_false, Bool.false_or, Bool.not_not]
  refine s_draft_Alloc (d := d) ?_
  have hst := dAlloc_steps (d := d) (a := (wn : Int))
  have hrf := dAlloc_rf (d := d) (a := (wn : Int))
  generalize dAlloc d (wn : Int) = p at hK hst hrf ⊢
  obtain ⟨d1, to⟩ := p
  simp only at hK hst hrf ⊢
  try simp (maxSteps := 2000000) only [↓RG, true_and, and_true, beq_true, beq_false, Bool.true_beq, Bool.false_beq, BEq.rfl, Int.reduceEq, Int.reduceLT, Int.reduceLE, Nat.reduceEqDiff, decide_true, decide_false, Bool.not_true, Bool.not_false, Bool.and_true, Bool.true_and, Bool.and_false, Bool.false_and, Bool.or_true, Bool.true_or, Bool.or_false, Bool.false_or, Bool.not_not]
  refine G.pickAll (As := [own x11 [v], sl intE v (List.replicate wn 0), ob DraftR b d1, own tp (t.cells b), own x1 [ptr tp 0], own x7 [i64 wn]]) ?_
  have hb : ∀ F, G w0 (ob (BoxR intE) x11 (List.replicate wn 0) :: ob DraftR b d1 :: own tp (t.cells b) :: own x1 [ptr tp 0] :: own x7 [i64 wn] :: M) F → G w0 (own x11 [v] :: sl intE v (List.replicate wn 0) :: ob DraftR b d1 :: own tp (t.cells b) :: own x1 [ptr tp 0] :: own x7 [i64 wn] :: M) F := fun F h => by
    rw [BoxR_open] at h
    exact h v hv
  refine hb _ ?_
  refine s_table_each (b := b) (t := t) (d := d1) (s := List.replicate wn 0) (f := growF wn) (Pc := fun s => ob (BoxR intE) x11 s) (Good := fun s _ => s.length = wn) (m := m) (hs.eq hst) (by omega) (by omega) (by simp) (fun s k h => h) (fun s d a h => ⟨by rw [growF_len]; exact h, growF_steps⟩) (fun s d a K' h _ hK' => ?_) ?_
  · show G w0 _ (CP Try.prog Fn.table_table_grow_1 [i64 a, ptr x1 0, ptr x7 0, ptr x11 0] K')
    exact s_grow_1 ⟨by omega, by omega⟩ (by omega) hK'
  have hql : (tEach (growF wn) t (List.replicate wn 0) d1).1.length = wn := eachN_inv (f := growF wn) (P := fun s : List Int => s.length = wn) (fun s d a h => by rw [growF_len]; exact h) (by simp)
  have hqrf := tEach_rf (f := growF wn) (fun s d a => growF_rf) (t := t) (s := List.replicate wn 0) (d := d1)
  generalize tEach (growF wn) t (List.replicate wn 0) d1 = q at hK hql hqrf ⊢
  obtain ⟨first, d2⟩ := q
  simp only at hK hql hqrf ⊢
  rw [BoxR_open]
  intro v2 hv2
  try simp (maxSteps := 2000000) only [↓RG, true_and, and_true, beq_true, beq_false, Bool.true_beq, Bool.false_beq, BEq.rfl, Int.reduceEq, Int.reduceLT, Int.reduceLE, Nat.reduceEqDiff, decide_true, decide_false, Bool.not_true, Bool.not_false, Bool.and_true, Bool.true_and, Bool.and_false, Bool.false_and, Bool.or_true, Bool.true_or, Bool.or_false, Bool.false_or, Bool.not_not]
  have hll : (first.length : Int) = (wn : Int) := by omega
  refine G.loop1 (σ := Nat) (fun k => i64 k) (fun k => own x11 [v2] :: sl intE v2 first :: ob DraftR b (pts to first k d2) :: own tp (t.cells b) :: own x1 [ptr tp 0] :: own x7 [i64 wn] :: M) (fun k => k ≤ wn) (fun k => wn - k) 0 rfl rfl (by omega) ?_
  intro k hk J hJ
  try simp (maxSteps := 2000000) only [↓RG, true_and, and_true, beq_true, beq_false, Bool.true_beq, Bool.false_beq, BEq.rfl, Int.reduceEq, Int.reduceLT, Int.reduceLE, Nat.reduceEqDiff, decide_true, decide_false, Bool.not_true, Bool.not_false, Bool.and_true, Bool.true_and, Bool.and_false, Bool.false_and, Bool.or_true, Bool.true_or, Bool.or_false, Bool.false_or, Bool.not_not, hll]
  refine G.cond (fun h => ?_) (fun h => ?_)
  · have hk2 : k < wn := by simpa using h
    have hk3 : k < first.length := by omega
    have e := elem_of hk3
    have hg : first.getD k 0 = first[k] := by rw [List.getD_eq_getElem?_getD, e.eq]; rfl
    try simp (maxSteps := 2000000) only [↓RG, true_and, and_true, beq_true, beq_false, Bool.true_beq, Bool.false_beq, BEq.rfl, Int.reduceEq, Int.reduceLT, Int.reduceLE, Nat.reduceEqDiff, decide_true, decide_false, Bool.not_true, Bool.not_false, Bool.and_true, Bool.true_and, Bool.and_false, Bool.false_and, Bool.or_true, Bool.true_or, Bool.or_false, Bool.false_or, Bool.not_not]
    refine s_draft_Point (d := pts to first k d2) ?_
    try simp (maxSteps := 2000000) only [↓RG, true_and, and_true, beq_true, beq_false, Bool.true_beq, Bool.false_beq, BEq.rfl, Int.reduceEq, Int.reduceLT, Int.reduceLE, Nat.reduceEqDiff, decide_true, decide_false, Bool.not_true, Bool.not_false, Bool.and_true, Bool.true_and, Bool.and_false, Bool.false_and, Bool.or_true, Bool.true_or, Bool.or_false, Bool.false_or, Bool.not_not]
    rw [wsucc (by omega)]
    have hn := hJ (k + 1) hk2 (by omega)
    unfold pts at hn
    rw [hg] at hn
    exact hn
  · have hk2 : k = wn := by simp at h; omega
    subst hk2
    refine G.drew ?_
    try simp (maxSteps := 2000000) only [↓RG, true_and, and_true, beq_true, beq_false, Bool.true_beq, Bool.false_beq, BEq.rfl, Int.reduceEq, Int.reduceLT, Int.reduceLE, Nat.reduceEqDiff, decide_true, decide_false, Bool.not_true, Bool.not_false, Bool.and_true, Bool.true_and, Bool.and_false, Bool.false_and, Bool.or_true, Bool.true_or, Bool.or_false, Bool.false_or, Bool.not_not]
    refine s_draft_Free (d := pts to first k d2) (by
      show (pts to first k d2).rf.length ≤ _
      rw [pts_rf, hqrf, hrf]; exact hf) ?_
    try simp (maxSteps := 2000000) only [↓RG, true_and, and_true, beq_true, beq_false, Bool.true_beq, Bool.false_beq, BEq.rfl, Int.reduceEq, Int.reduceLT, Int.reduceLE, Nat.reduceEqDiff, decide_true, decide_false, Bool.not_true, Bool.not_false, Bool.and_true, Bool.true_and, Bool.and_false, Bool.false_and, Bool.or_true, Bool.true_or, Bool.or_false, Bool.false_or, Bool.not_not]
    refine G.drew ?_
    try simp (maxSteps := 2000000) only [↓RG, true_and, and_true, beq_true, beq_false, Bool.true_beq, Bool.false_beq, BEq.rfl, Int.reduceEq, Int.reduceLT, Int.reduceLE, Nat.reduceEqDiff, decide_true, decide_false, Bool.not_true, Bool.not_false, Bool.and_true, Bool.true_and, Bool.and_false, Bool.false_and, Bool.or_true, Bool.true_or, Bool.or_false, Bool.false_or, Bool.not_not]
    refine G.drew ?_
    try simp (maxSteps := 2000000) only [↓RG, true_and, and_true, beq_true, beq_false, Bool.true_beq, Bool.false_beq, BEq.rfl, Int.reduceEq, Int.reduceLT, Int.reduceLE, Nat.reduceEqDiff, decide_true, decide_false, Bool.not_true, Bool.not_false, Bool.and_true, Bool.true_and, Bool.and_false, Bool.false_and, Bool.or_true, Bool.true_or, Bool.or_false, Bool.false_or, Bool.not_not]
    refine s_draft_Point (d := dFree (pts to first k d2) t.chains) ?_
    try simp (maxSteps := 2000000) only [↓RG, true_and, and_true, beq_true, beq_false, Bool.true_beq, Bool.false_beq, BEq.rfl, Int.reduceEq, Int.reduceLT, Int.reduceLE, Nat.reduceEqDiff, decide_true, decide_false, Bool.not_true, Bool.not_false, Bool.and_true, Bool.true_and, Bool.and_false, Bool.false_and, Bool.or_true, Bool.true_or, Bool.or_false, Bool.false_or, Bool.not_not]
    refine G.drew ?_
    try simp (maxSteps := 2000000) only [↓RG, true_and, and_true, beq_true, beq_false, Bool.true_beq, Bool.false_beq, BEq.rfl, Int.reduceEq, Int.reduceLT, Int.reduceLE, Nat.reduceEqDiff, decide_true, decide_false, Bool.not_true, Bool.not_false, Bool.and_true, Bool.true_and, Bool.and_false, Bool.false_and, Bool.or_true, Bool.true_or, Bool.or_false, Bool.false_or, Bool.not_not]
    refine s_draft_Point (d := dPoint (dFree (pts to first k d2) t.chains) (w64 (t.head + 1)) k) ?_
    try simp (maxSteps := 2000000) only [↓RG, true_and, and_true, beq_true, beq_false, Bool.true_beq, Bool.false_beq, BEq.rfl, Int.reduceEq, Int.reduceLT, Int.reduceLE, Nat.reduceEqDiff, decide_true, decide_false, Bool.not_true, Bool.not_false, Bool.and_true, Bool.true_and, Bool.and_false, Bool.false_and, Bool.or_true, Bool.true_or, Bool.or_false, Bool.false_or, Bool.not_not]
    exact hK.sub

end
end Go.Proofs.Ytokbiojkpldfeaa.S
