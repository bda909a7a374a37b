/-
  CHAPTER 18: package table: its model on a draft; contracts of its inner functions.
-/
import Derived.Test.YtokbiojkpldfeaaDraft
namespace Go.Proofs.Ytokbiojkpldfeaa.S
open Go Go.Proofs
set_option linter.unusedVariables false
set_option linter.unusedSimpArgs false

/-- a table in a draft -/
structure TbS where
  head : Int
  wide : Int
  chains : Int
  keys : Int
abbrev TbS.cells (t : TbS) (dp : Nat) : List Value := [ptr dp 0, i64 t.head, i64 t.wide, i64 t.chains, u64 t.keys]

def uAnd (a b : Int) : Int := IntKind.wrap .u64 (BitVec.ofInt IntKind.u64.bits a &&& BitVec.ofInt IntKind.u64.bits b).toNat
def iAnd (a b : Int) : Int := IntKind.wrap .i64 (BitVec.ofInt IntKind.i64.bits a &&& BitVec.ofInt IntKind.i64.bits b).toNat
def badWide (n : Int) : Bool := decide (n < 2) || decide (16 < n) || !decide (uAnd n (wU (n - 1)) = 0)
def tOpen (d : DrS) (root : Int) : DrS × TbS :=
  if (dPlace d root).2 = 0 then ((dPlace d root).1, ⟨0, 0, 0, 0⟩)
  else
    let h := (dPlace d root).2
    let k := dRead (dPlace d root).1 (w64 (h + 0))
    let n := dRead k.1 (w64 (h + 1))
    let c := dPlace (if badWide n.2 = true then dFail n.1 2 else n.1) (w64 (h + 2))
    (c.1, ⟨h, w64 (if badWide n.2 = true then 2 else n.2), c.2, k.2⟩)
def tMade (d : DrS) (root : Int) : DrS × TbS :=
  let h := dAlloc d 3
  let c := dAlloc h.1 2
  let d2 := dPoint (dPoint c.1 (w64 (c.2 + 0)) 0) (w64 (c.2 + 1)) 0
  let d5 := dPoint (dPoint (dPoint d2 (w64 (h.2 + 0)) 0) (w64 (h.2 + 1)) 2) (w64 (h.2 + 2)) c.2
  (dPoint d5 root h.2, ⟨h.2, 2, c.2, 0⟩)
def tChain (k wide : Int) : Int := iAnd (w64 ((wU (k * 11400714819323198485)).fdiv (2 ^ min (60 : Int).toNat IntKind.u64.bits))) (w64 (wide - 1))
def seekN (k : Int) : Nat → DrS → Int → DrS × Int × Int
  | 0, d, link => (d, link, 0)
  | n + 1, d, link =>
    if (dStep d).err = 0 then
      (if (dPlace (dStep d) link).2 = 0 then ((dPlace (dStep d) link).1, link, 0)
       else if (dRead (dPlace (dStep d) link).1 (w64 ((dPlace (dStep d) link).2 + 0))).2 = k then ((dRead (dPlace (dStep d) link).1 (w64 ((dPlace (dStep d) link).2 + 0))).1, link, (dPlace (dStep d) link).2)
       else seekN k n (dRead (dPlace (dStep d) link).1 (w64 ((dPlace (dStep d) link).2 + 0))).1 (w64 ((dPlace (dStep d) link).2 + 2)))
    else (dStep d, link, 0)
def fuel (d : DrS) : Nat := (2048 - d.steps).toNat + 1
def tSeek (d : DrS) (t : TbS) (k : Int) : DrS × Int × Int := seekN k (fuel d) d (w64 (t.chains + tChain k t.wide))

/-! ### steps -/
theorem dFail_steps {d : DrS} {e : Int} : (dFail d e).steps = d.steps := by unfold dFail; split <;> rfl
theorem dRead_steps {d : DrS} {a : Int} : (dRead d a).1.steps = d.steps := by unfold dRead; split <;> first | rw [dFail_steps] | rfl
theorem dName_steps {d : DrS} {a : Int} : (dName d a).1.steps = d.steps := by unfold dName; split <;> first | rw [dFail_steps] | rfl
theorem dPlace_steps {d : DrS} {a : Int} : (dPlace d a).1.steps = d.steps := by unfold dPlace; rw [dName_steps, dRead_steps]
theorem dWrite_steps {d : DrS} {a x : Int} : (dWrite d a x).steps = d.steps := by unfold dWrite; split <;> first | rw [dFail_steps] | rfl
theorem dPoint_steps {d : DrS} {a x : Int} : (dPoint d a x).steps = d.steps := dWrite_steps
theorem dAlloc_steps {d : DrS} {a : Int} : (dAlloc d a).1.steps = d.steps := by unfold dAlloc; split <;> first | rw [dFail_steps] | rfl
theorem dFree_steps {d : DrS} {a : Int} : (dFree d a).steps = d.steps := by unfold dFree; split <;> first | rw [dFail_steps] | rfl
/-- steps that may be -/
def StOk (d : DrS) (m : Nat) : Prop := 0 ≤ d.steps ∧ d.steps ≤ 2049 + m
theorem dStep_steps {d : DrS} {m : Nat} (h : StOk d m) (hm : m ≤ 1000000) : (dStep d).steps = d.steps + 1 ∧ ((dStep d).err = 0 → d.steps < 2048) := by
  unfold StOk at h
  have w : w64 (d.steps + 1) = d.steps + 1 := wi64 (by omega) (by omega)
  unfold dStep
  rw [w]
  split
  · refine ⟨by rw [dFail_steps], fun h2 => ?_⟩
    unfold dFail at h2
    split at h2
    · simp at h2
    · rename_i h3; exact absurd h2 h3
  · exact ⟨rfl, fun _ => by omega⟩
theorem dStep_ok {d : DrS} {m : Nat} (h : StOk d m) (hm : m ≤ 1000000) (he : (dStep d).err = 0) : StOk (dStep d) m := by
  have := dStep_steps h hm
  have h2 := this.2 he
  unfold StOk at h ⊢
  omega

section
variable {w0 : Base} {L M : List Asn} {K : KV} {F : World → Prop} {C : Asn → List Asn} {b tp : Nat} {d : DrS} {t : TbS} {n a x e : Int}

theorem s_table_chain {k wide : Int} (hK : G w0 L (K (i64 (tChain k wide)))) : G w0 L (CP Try.prog Fn.table_chain [u64 k, i64 wide] K) := by
  refine C_table_chain ?_
  unfold S_table_chain
  try simp (maxSteps := 2000000) only [↓RG, RP, true_and, and_true, beq_true, beq_false, Bool.true_beq, Bool.false_beq, BEq.rfl, Int.reduceEq, Int.reduceLT, Int.reduceLE, Nat.reduceEqDiff, decide_true, decide_false, Bool.not_true, Bool.not_false, Bool.and_true, Bool.true_and, Bool.and_false, Bool.false_and, Bool.or_true, Bool.true_or, Bool.or_false, Bool.false_or, Bool.not_not]
  exact hK

theorem s_table_open {root : Int} [i : SelOb L DraftR b d C] (hK : ∀ tp, G w0 (own tp ((tOpen d root).2.cells b) :: C (ob DraftR b (tOpen d root).1)) (K (ptr tp 0))) : G w0 L (CP Try.prog Fn.table_open [ptr b 0, i64 root] K) := by
  refine i.useNM (P := fun _ => True) (N := fun tp => own tp ((tOpen d root).2.cells b)) (A' := fun _ => ob DraftR b (tOpen d root).1) (F' := fun tp => K (ptr tp 0)) (fun M hM hK => ?_) (fun tp _ => hK tp)
  refine C_table_open ?_
  unfold S_table_open
  unfold tOpen at hK
  try simp (maxSteps := 2000000) only [fuse_and, fuse_or, fuse_step, fuse_pair, fuse_in, andP_true]
  refine s_draft_Place (d := d) ?_
  generalize dPlace d root = p at hK ⊢
  obtain ⟨d1, h⟩ := p
  simp only at hK ⊢
  try simp (maxSteps := 2000000) only [↓RG, RP, true_and, and_true, beq_true, beq_false, Bool.true_beq, Bool.false_beq, BEq.rfl, Int.reduceEq, Int.reduceLT, Int.reduceLE, Nat.reduceEqDiff, decide_true, decide_false, Bool.not_true, Bool.not_false, Bool.and_true, Bool.true_and, Bool.and_false, Bool.false_and, Bool.or_true, Bool.true_or, Bool.or_false, Bool.false_or, Bool.not_not]
  refine G.box fun tp => ?_
  by_cases h0 : h = 0
  · rw [if_pos h0] at hK
    subst h0
    try simp (maxSteps := 2000000) only [↓RG, RP, true_and, and_true, beq_true, beq_false, Bool.true_beq, Bool.false_beq, BEq.rfl, Int.reduceEq, Int.reduceLT, Int.reduceLE, Nat.reduceEqDiff, decide_true, decide_false, Bool.not_true, Bool.not_false, Bool.and_true, Bool.true_and, Bool.and_false, Bool.false_and, Bool.or_true, Bool.true_or, Bool.or_false, Bool.false_or, Bool.not_not]
    exact hK tp trivial
  rw [if_neg h0] at hK
  try simp (maxSteps := 2000000) only [↓RG, RP, true_and, and_true, beq_true, beq_false, Bool.true_beq, Bool.false_beq, BEq.rfl, Int.reduceEq, Int.reduceLT, Int.reduceLE, Nat.reduceEqDiff, decide_true, decide_false, Bool.not_true, Bool.not_false, Bool.and_true, Bool.true_and, Bool.and_false, Bool.false_and, Bool.or_true, Bool.true_or, Bool.or_false, Bool.false_or, Bool.not_not, h0]
  refine s_draft_Read (d := d1) ?_
  generalize dRead d1 (w64 (h + 0)) = p at hK ⊢
  obtain ⟨d2, keys⟩ := p
  simp only at hK ⊢
  try simp (maxSteps := 2000000) only [↓RG, RP, true_and, and_true, beq_true, beq_false, Bool.true_beq, Bool.false_beq, BEq.rfl, Int.reduceEq, Int.reduceLT, Int.reduceLE, Nat.reduceEqDiff, decide_true, decide_false, Bool.not_true, Bool.not_false, Bool.and_true, Bool.true_and, Bool.and_false, Bool.false_and, Bool.or_true, Bool.true_or, Bool.or_false, Bool.false_or, Bool.not_not]
  refine s_draft_Read (d := d2) ?_
  generalize dRead d2 (w64 (h + 1)) = p at hK ⊢
  obtain ⟨d3, n⟩ := p
  simp only at hK ⊢
  try simp (maxSteps := 2000000) only [↓RG, RP, true_and, and_true, beq_true, beq_false, Bool.true_beq, Bool.false_beq, BEq.rfl, Int.reduceEq, Int.reduceLT, Int.reduceLE, Nat.reduceEqDiff, decide_true, decide_false, Bool.not_true, Bool.not_false, Bool.and_true, Bool.true_and, Bool.and_false, Bool.false_and, Bool.or_true, Bool.true_or, Bool.or_false, Bool.false_or, Bool.not_not]
  refine G.joini1 ?_
  have eb : (decide (n < 2) || decide (16 < n) || !decide (uAnd n (wU (n - 1)) = 0)) = badWide n := rfl
  cases hb : badWide n
  · have hb2 : (decide (n < 2) || decide (16 < n) || !decide (IntKind.wrap .u64 (BitVec.ofInt IntKind.u64.bits n &&& BitVec.ofInt IntKind.u64.bits (IntKind.wrap .u64 (n - 1))).toNat = 0)) = false := hb
    rw [hb] at hK
    simp only [Bool.false_eq_true, if_false] at hK
    rw [hb2]
    try simp (maxSteps := 2000000) only [↓RG, RP, true_and, and_true, beq_true, beq_false, Bool.true_beq, Bool.false_beq, BEq.rfl, Int.reduceEq, Int.reduceLT, Int.reduceLE, Nat.reduceEqDiff, decide_true, decide_false, Bool.not_true, Bool.not_false, Bool.and_true, Bool.true_and, Bool.and_false, Bool.false_and, Bool.or_true, Bool.true_or, Bool.or_false, Bool.false_or, Bool.not_not]
    refine s_draft_Place (d := d3) ?_
    try simp (maxSteps := 2000000) only [↓RG, RP, true_and, and_true, beq_true, beq_false, Bool.true_beq, Bool.false_beq, BEq.rfl, Int.reduceEq, Int.reduceLT, Int.reduceLE, Nat.reduceEqDiff, decide_true, decide_false, Bool.not_true, Bool.not_false, Bool.and_true, Bool.true_and, Bool.and_false, Bool.false_and, Bool.or_true, Bool.true_or, Bool.or_false, Bool.false_or, Bool.not_not]
    exact hK tp trivial
  · have hb2 : (decide (n < 2) || decide (16 < n) || !decide (IntKind.wrap .u64 (BitVec.ofInt IntKind.u64.bits n &&& BitVec.ofInt IntKind.u64.bits (IntKind.wrap .u64 (n - 1))).toNat = 0)) = true := hb
    rw [hb] at hK
    simp only [if_true] at hK
    rw [hb2]
    try simp (maxSteps := 2000000) only [↓RG, RP, true_and, and_true, beq_true, beq_false, Bool.true_beq, Bool.false_beq, BEq.rfl, Int.reduceEq, Int.reduceLT, Int.reduceLE, Nat.reduceEqDiff, decide_true, decide_false, Bool.not_true, Bool.not_false, Bool.and_true, Bool.true_and, Bool.and_false, Bool.false_and, Bool.or_true, Bool.true_or, Bool.or_false, Bool.false_or, Bool.not_not]
    refine s_draft_Fail (d := d3) ?_
    try simp (maxSteps := 2000000) only [↓RG, RP, true_and, and_true, beq_true, beq_false, Bool.true_beq, Bool.false_beq, BEq.rfl, Int.reduceEq, Int.reduceLT, Int.reduceLE, Nat.reduceEqDiff, decide_true, decide_false, Bool.not_true, Bool.not_false, Bool.and_true, Bool.true_and, Bool.and_false, Bool.false_and, Bool.or_true, Bool.true_or, Bool.or_false, Bool.false_or, Bool.not_not]
    refine s_draft_Place (d := dFail d3 2) ?_
    try simp (maxSteps := 2000000) only [↓RG, RP, true_and, and_true, beq_true, beq_false, Bool.true_beq, Bool.false_beq, BEq.rfl, Int.reduceEq, Int.reduceLT, Int.reduceLE, Nat.reduceEqDiff, decide_true, decide_false, Bool.not_true, Bool.not_false, Bool.and_true, Bool.true_and, Bool.and_false, Bool.false_and, Bool.or_true, Bool.true_or, Bool.or_false, Bool.false_or, Bool.not_not]
    exact hK tp trivial

theorem s_table_made {root : Int} [i : SelOb L DraftR b d C] (hK : ∀ tp, G w0 (own tp ((tMade d root).2.cells b) :: C (ob DraftR b (tMade d root).1)) (K (ptr tp 0))) : G w0 L (CP Try.prog Fn.table_made [ptr b 0, i64 root] K) := by
  refine i.useNM (P := fun _ => True) (N := fun tp => own tp ((tMade d root).2.cells b)) (A' := fun _ => ob DraftR b (tMade d root).1) (F' := fun tp => K (ptr tp 0)) (fun M hM hK => ?_) (fun tp _ => hK tp)
  refine C_table_made ?_
  unfold S_table_made
  unfold tMade at hK
  refine s_draft_Alloc (d := d) ?_
  generalize dAlloc d 3 = p at hK ⊢
  obtain ⟨d1, h⟩ := p
  simp only at hK ⊢
  refine s_draft_Alloc (d := d1) ?_
  generalize dAlloc d1 2 = p at hK ⊢
  obtain ⟨d2, c⟩ := p
  simp only at hK ⊢
  try simp (maxSteps := 2000000) only [↓RG, true_and, and_true, beq_true, beq_false, Bool.true_beq, Bool.false_beq, BEq.rfl, Int.reduceEq, Int.reduceLT, Int.reduceLE, Nat.reduceEqDiff, decide_true, decide_false, Bool.not_true, Bool.not_false, Bool.and_true, Bool.true_and, Bool.and_false, Bool.false_and, Bool.or_true, Bool.true_or, Bool.or_false, Bool.false_or, Bool.not_not]
  refine G.box fun tp => ?_
  refine G.loop1 (σ := Nat) (fun k => i64 k) (fun k => own tp [ptr b 0, i64 h, i64 2, i64 c, u64 0] :: ob DraftR b (if k = 0 then d2 else if k = 1 then dPoint d2 (w64 (c + 0)) 0 else dPoint (dPoint d2 (w64 (c + 0)) 0) (w64 (c + 1)) 0) :: M) (fun k => k ≤ 2) (fun k => 2 - k) 0 rfl rfl (by omega) ?_
  intro k hk J hJ
  try simp (maxSteps := 2000000) only [↓RG, true_and, and_true, beq_true, beq_false, Bool.true_beq, Bool.false_beq, BEq.rfl, Int.reduceEq, Int.reduceLT, Int.reduceLE, Nat.reduceEqDiff, decide_true, decide_false, Bool.not_true, Bool.not_false, Bool.and_true, Bool.true_and, Bool.and_false, Bool.false_and, Bool.or_true, Bool.true_or, Bool.or_false, Bool.false_or, Bool.not_not]
  refine G.cond (fun g => ?_) (fun g => ?_)
  · have hk2 : k < 2 := by simp at g; omega
    try simp (maxSteps := 2000000) only [↓RG, true_and, and_true, beq_true, beq_false, Bool.true_beq, Bool.false_beq, BEq.rfl, Int.reduceEq, Int.reduceLT, Int.reduceLE, Nat.reduceEqDiff, decide_true, decide_false, Bool.not_true, Bool.not_false, Bool.and_true, Bool.true_and, Bool.and_false, Bool.false_and, Bool.or_true, Bool.true_or, Bool.or_false, Bool.false_or, Bool.not_not]
    refine s_draft_Point (d := if k = 0 then d2 else if k = 1 then dPoint d2 (w64 (c + 0)) 0 else dPoint (dPoint d2 (w64 (c + 0)) 0) (w64 (c + 1)) 0) ?_
    try simp (maxSteps := 2000000) only [↓RG, true_and, and_true, beq_true, beq_false, Bool.true_beq, Bool.false_beq, BEq.rfl, Int.reduceEq, Int.reduceLT, Int.reduceLE, Nat.reduceEqDiff, decide_true, decide_false, Bool.not_true, Bool.not_false, Bool.and_true, Bool.true_and, Bool.and_false, Bool.false_and, Bool.or_true, Bool.true_or, Bool.or_false, Bool.false_or, Bool.not_not]
    rw [wsucc (by omega)]
    have hn := hJ (k + 1) (by omega) (by omega)
    rcases (show k = 0 ∨ k = 1 by omega) with rfl | rfl
    · exact hn
    · exact hn
  · have hk2 : k = 2 := by simp at g; omega
    subst hk2
    try simp (maxSteps := 2000000) only [↓RG, true_and, and_true, beq_true, beq_false, Bool.true_beq, Bool.false_beq, BEq.rfl, Int.reduceEq, Int.reduceLT, Int.reduceLE, Nat.reduceEqDiff, decide_true, decide_false, Bool.not_true, Bool.not_false, Bool.and_true, Bool.true_and, Bool.and_false, Bool.false_and, Bool.or_true, Bool.true_or, Bool.or_false, Bool.false_or, Bool.not_not]
    refine s_draft_Point (d := dPoint (dPoint d2 (w64 (c + 0)) 0) (w64 (c + 1)) 0) ?_
    try simp (maxSteps := 2000000) only [↓RG, true_and, and_true, beq_true, beq_false, Bool.true_beq, Bool.false_beq, BEq.rfl, Int.reduceEq, Int.reduceLT, Int.reduceLE, Nat.reduceEqDiff, decide_true, decide_false, Bool.not_true, Bool.not_false, Bool.and_true, Bool.true_and, Bool.and_false, Bool.false_and, Bool.or_true, Bool.true_or, Bool.or_false, Bool.false_or, Bool.not_not]
    refine s_draft_Point (d := dPoint (dPoint (dPoint d2 (w64 (c + 0)) 0) (w64 (c + 1)) 0) (w64 (h + 0)) 0) ?_
    refine G.drew ?_
    try simp (maxSteps := 2000000) only [↓RG, true_and, and_true, beq_true, beq_false, Bool.true_beq, Bool.false_beq, BEq.rfl, Int.reduceEq, Int.reduceLT, Int.reduceLE, Nat.reduceEqDiff, decide_true, decide_false, Bool.not_true, Bool.not_false, Bool.and_true, Bool.true_and, Bool.and_false, Bool.false_and, Bool.or_true, Bool.true_or, Bool.or_false, Bool.false_or, Bool.not_not]
    refine s_draft_Point (d := dPoint (dPoint (dPoint (dPoint d2 (w64 (c + 0)) 0) (w64 (c + 1)) 0) (w64 (h + 0)) 0) (w64 (h + 1)) 2) ?_
    try simp (maxSteps := 2000000) only [↓RG, true_and, and_true, beq_true, beq_false, Bool.true_beq, Bool.false_beq, BEq.rfl, Int.reduceEq, Int.reduceLT, Int.reduceLE, Nat.reduceEqDiff, decide_true, decide_false, Bool.not_true, Bool.not_false, Bool.and_true, Bool.true_and, Bool.and_false, Bool.false_and, Bool.or_true, Bool.true_or, Bool.or_false, Bool.false_or, Bool.not_not]
    refine s_draft_Point (d := dPoint (dPoint (dPoint (dPoint (dPoint d2 (w64 (c + 0)) 0) (w64 (c + 1)) 0) (w64 (h + 0)) 0) (w64 (h + 1)) 2) (w64 (h + 2)) c) ?_
    exact hK tp trivial

theorem fuel_succ {d : DrS} {m : Nat} (h : StOk d m) (hm : m ≤ 1000000) (he : (dStep d).err = 0) : fuel d = fuel (dStep d) + 1 := by
  have := dStep_steps h hm
  have h2 := this.2 he
  unfold StOk at h
  unfold fuel
  rw [this.1]
  omega
theorem StOk.eq {d d' : DrS} {m : Nat} (h : StOk d m) (e : d'.steps = d.steps) : StOk d' m := by unfold StOk at *; rw [e]; exact h
theorem fuel_eq {d d' : DrS} (e : d'.steps = d.steps) : fuel d' = fuel d := by unfold fuel; rw [e]

theorem s_table_seek {m : Nat} {k : Int} (hs : StOk d m) (hm : m ≤ 1000000) [PickAll [own tp (t.cells b), ob DraftR b d] L M] (hK : G w0 (own tp (t.cells b) :: ob DraftR b (tSeek d t k).1 :: M) (K (.tuple #[i64 (tSeek d t k).2.1, i64 (tSeek d t k).2.2]))) : G w0 L (CP Try.prog Fn.table_table_seek [ptr tp 0, u64 k] K) := by
  refine G.pickAll (As := [own tp (t.cells b), ob DraftR b d]) ?_
  show G w0 (own tp (t.cells b) :: ob DraftR b d :: M) _
  refine C_table_table_seek ?_
  unfold S_table_table_seek
  try simp (maxSteps := 2000000) only [fuse_and, fuse_or, fuse_step, fuse_pair, fuse_in, andP_true]
  refine G.drew ?_
  try simp (maxSteps := 2000000) only [↓RG, RP, true_and, and_true, beq_true, beq_false, Bool.true_beq, Bool.false_beq, BEq.rfl, Int.reduceEq, Int.reduceLT, Int.reduceLE, Nat.reduceEqDiff, decide_true, decide_false, Bool.not_true, Bool.not_false, Bool.and_true, Bool.true_and, Bool.and_false, Bool.false_and, Bool.or_true, Bool.true_or, Bool.or_false, Bool.false_or, Bool.not_not]
  refine s_table_chain ?_
  try simp (maxSteps := 2000000) only [↓RG, RP, true_and, and_true, beq_true, beq_false, Bool.true_beq, Bool.false_beq, BEq.rfl, Int.reduceEq, Int.reduceLT, Int.reduceLE, Nat.reduceEqDiff, decide_true, decide_false, Bool.not_true, Bool.not_false, Bool.and_true, Bool.true_and, Bool.and_false, Bool.false_and, Bool.or_true, Bool.true_or, Bool.or_false, Bool.false_or, Bool.not_not]
  refine G.loop1 (σ := DrS × Int) (fun z => i64 z.2) (fun z => own tp (t.cells b) :: ob DraftR b z.1 :: M) (fun z => StOk z.1 m ∧ tSeek d t k = seekN k (fuel z.1) z.1 z.2) (fun z => fuel z.1) (d, w64 (t.chains + tChain k t.wide)) rfl rfl ⟨hs, rfl⟩ ?_
  rintro ⟨d1, link⟩ ⟨h1, hp⟩ J hJ
  simp only at h1 hp hJ ⊢
  rw [hp] at hK
  try simp (maxSteps := 2000000) only [↓RG, RP, true_and, and_true, beq_true, beq_false, Bool.true_beq, Bool.false_beq, BEq.rfl, Int.reduceEq, Int.reduceLT, Int.reduceLE, Nat.reduceEqDiff, decide_true, decide_false, Bool.not_true, Bool.not_false, Bool.and_true, Bool.true_and, Bool.and_false, Bool.false_and, Bool.or_true, Bool.true_or, Bool.or_false, Bool.false_or, Bool.not_not]
  refine s_draft_Step (d := d1) ?_
  by_cases he : (dStep d1).err = 0
  · have hfu := fuel_succ h1 hm he
    have hok := dStep_ok h1 hm he
    rw [hfu] at hK hp
    unfold seekN at hK hp
    rw [if_pos he] at hK hp
    try simp (maxSteps := 2000000) only [↓RG, RP, true_and, and_true, beq_true, beq_false, Bool.true_beq, Bool.false_beq, BEq.rfl, Int.reduceEq, Int.reduceLT, Int.reduceLE, Nat.reduceEqDiff, decide_true, decide_false, Bool.not_true, Bool.not_false, Bool.and_true, Bool.true_and, Bool.and_false, Bool.false_and, Bool.or_true, Bool.true_or, Bool.or_false, Bool.false_or, Bool.not_not, eq_true he]
    refine s_draft_Place (d := dStep d1) ?_
    have hps := dPlace_steps (d := dStep d1) (a := link)
    generalize dPlace (dStep d1) link = p at hK hp hps ⊢
    obtain ⟨d2, at_⟩ := p
    simp only at hK hp hps ⊢
    try simp (maxSteps := 2000000) only [↓RG, RP, true_and, and_true, beq_true, beq_false, Bool.true_beq, Bool.false_beq, BEq.rfl, Int.reduceEq, Int.reduceLT, Int.reduceLE, Nat.reduceEqDiff, decide_true, decide_false, Bool.not_true, Bool.not_false, Bool.and_true, Bool.true_and, Bool.and_false, Bool.false_and, Bool.or_true, Bool.true_or, Bool.or_false, Bool.false_or, Bool.not_not]
    by_cases h0 : at_ = 0
    · rw [if_pos h0] at hK
      subst h0
      try simp (maxSteps := 2000000) only [↓RG, RP, true_and, and_true, beq_true, beq_false, Bool.true_beq, Bool.false_beq, BEq.rfl, Int.reduceEq, Int.reduceLT, Int.reduceLE, Nat.reduceEqDiff, decide_true, decide_false, Bool.not_true, Bool.not_false, Bool.and_true, Bool.true_and, Bool.and_false, Bool.false_and, Bool.or_true, Bool.true_or, Bool.or_false, Bool.false_or, Bool.not_not]
      exact hK
    rw [if_neg h0] at hK hp
    try simp (maxSteps := 2000000) only [↓RG, RP, true_and, and_true, beq_true, beq_false, Bool.true_beq, Bool.false_beq, BEq.rfl, Int.reduceEq, Int.reduceLT, Int.reduceLE, Nat.reduceEqDiff, decide_true, decide_false, Bool.not_true, Bool.not_false, Bool.and_true, Bool.true_and, Bool.and_false, Bool.false_and, Bool.or_true, Bool.true_or, Bool.or_false, Bool.false_or, Bool.not_not, h0]
    refine s_draft_Read (d := d2) ?_
    have hrs := dRead_steps (d := d2) (a := w64 (at_ + 0))
    generalize dRead d2 (w64 (at_ + 0)) = r at hK hp hrs ⊢
    obtain ⟨d3, x⟩ := r
    simp only at hK hp hrs ⊢
    try simp (maxSteps := 2000000) only [↓RG, RP, true_and, and_true, beq_true, beq_false, Bool.true_beq, Bool.false_beq, BEq.rfl, Int.reduceEq, Int.reduceLT, Int.reduceLE, Nat.reduceEqDiff, decide_true, decide_false, Bool.not_true, Bool.not_false, Bool.and_true, Bool.true_and, Bool.and_false, Bool.false_and, Bool.or_true, Bool.true_or, Bool.or_false, Bool.false_or, Bool.not_not]
    by_cases hx : x = k
    · rw [if_pos hx] at hK
      try simp (maxSteps := 2000000) only [↓RG, RP, true_and, and_true, beq_true, beq_false, Bool.true_beq, Bool.false_beq, BEq.rfl, Int.reduceEq, Int.reduceLT, Int.reduceLE, Nat.reduceEqDiff, decide_true, decide_false, Bool.not_true, Bool.not_false, Bool.and_true, Bool.true_and, Bool.and_false, Bool.false_and, Bool.or_true, Bool.true_or, Bool.or_false, Bool.false_or, Bool.not_not, eq_true hx]
      exact hK
    · rw [if_neg hx] at hp
      try simp (maxSteps := 2000000) only [↓RG, RP, true_and, and_true, beq_true, beq_false, Bool.true_beq, Bool.false_beq, BEq.rfl, Int.reduceEq, Int.reduceLT, Int.reduceLE, Nat.reduceEqDiff, decide_true, decide_false, Bool.not_true, Bool.not_false, Bool.and_true, Bool.true_and, Bool.and_false, Bool.false_and, Bool.or_true, Bool.true_or, Bool.or_false, Bool.false_or, Bool.not_not, hx]
      have e3 : d3.steps = (dStep d1).steps := by rw [hrs, hps]
      exact hJ (d3, w64 (at_ + 2)) ⟨hok.eq e3, by rw [hp]; show _ = seekN k (fuel d3) d3 _; rw [fuel_eq e3]⟩ (by simp only; rw [fuel_eq e3]; omega)
  · have hn : fuel d1 = (2048 - d1.steps).toNat + 1 := rfl
    rw [hn] at hK
    unfold seekN at hK
    rw [if_neg he] at hK
    try simp (maxSteps := 2000000) only [↓RG, RP, true_and, and_true, beq_true, beq_false, Bool.true_beq, Bool.false_beq, BEq.rfl, Int.reduceEq, Int.reduceLT, Int.reduceLE, Nat.reduceEqDiff, decide_true, decide_false, Bool.not_true, Bool.not_false, Bool.and_true, Bool.true_and, Bool.and_false, Bool.false_and, Bool.or_true, Bool.true_or, Bool.or_false, Bool.false_or, Bool.not_not, he]
    exact hK
end

/-! ### each node -/
section
variable {σ : Type} (f : σ → DrS → Int → σ × DrS)
def inN : Nat → σ → DrS → Int → σ × DrS
  | 0, s, d, _ => (s, d)
  | n + 1, s, d, at_ =>
    if at_ = 0 then (s, d)
    else if (dStep d).err = 0 then inN n (f s (dPlace (dStep d) (w64 (at_ + 2))).1 at_).1 (f s (dPlace (dStep d) (w64 (at_ + 2))).1 at_).2 (dPlace (dStep d) (w64 (at_ + 2))).2
    else (s, dStep d)
/-- chains from the i-th on, n of them -/
def eachN (t : TbS) : Nat → Nat → σ → DrS → σ × DrS
  | 0, _, s, d => (s, d)
  | n + 1, i, s, d =>
    let p := dPlace d (w64 (t.chains + (i : Int)))
    let q := inN f (fuel p.1) s p.1 p.2
    eachN t n (i + 1) q.1 q.2
def tEach (t : TbS) (s : σ) (d : DrS) : σ × DrS := eachN f t t.wide.toNat 0 s d
variable {f}
theorem inN_stop {n : Nat} {s : σ} {d : DrS} {at_ : Int} (h : at_ = 0) : inN f (n + 1) s d at_ = (s, d) := by unfold inN; rw [if_pos h]
theorem inN_fail {n : Nat} {s : σ} {d : DrS} {at_ : Int} (h : ¬ at_ = 0) (he : ¬ (dStep d).err = 0) : inN f (n + 1) s d at_ = (s, dStep d) := by unfold inN; rw [if_neg h, if_neg he]
theorem inN_step {n : Nat} {s : σ} {d : DrS} {at_ : Int} (h : ¬ at_ = 0) (he : (dStep d).err = 0) : inN f (n + 1) s d at_ = inN f n (f s (dPlace (dStep d) (w64 (at_ + 2))).1 at_).1 (f s (dPlace (dStep d) (w64 (at_ + 2))).1 at_).2 (dPlace (dStep d) (w64 (at_ + 2))).2 := by
  conv => lhs; unfold inN
  rw [if_neg h, if_pos he]

variable {w0 : Base} {L M : List Asn} {K : KV} {F : World → Prop} {C : Asn → List Asn} {b tp : Nat} {d : DrS} {t : TbS} {n a x e : Int}

/-- the callback turns one piece, and the draft, but not its steps -/
theorem s_table_each {g : Value} {Pc : σ → Asn} {Good : σ → Int → Prop} {s : σ} {m : Nat} (hs : StOk d m) (hm : m ≤ 1000) (hw : t.wide ≤ 1000) (hg : Good s d.steps) (hmono : ∀ s k, Good s k → Good s (k + 1)) (hfs : ∀ s d a, Good s (d.steps - 1) → Good (f s d a).1 d.steps ∧ (f s d a).2.steps = d.steps)
    (hcb : ∀ (s : σ) (d : DrS) (a : Int) (K' : KV), Good s (d.steps - 1) → d.steps ≤ 2048 → G w0 (Pc (f s d a).1 :: ob DraftR b (f s d a).2 :: own tp (t.cells b) :: M) (K' (.tuple #[])) → G w0 (Pc s :: ob DraftR b d :: own tp (t.cells b) :: M) (dynW Try.prog g [i64 a] K'))
    [PickAll [Pc s, ob DraftR b d, own tp (t.cells b)] L M] (hK : G w0 (Pc (tEach f t s d).1 :: ob DraftR b (tEach f t s d).2 :: own tp (t.cells b) :: M) (K (.tuple #[]))) : G w0 L (CP Try.prog Fn.table_table_each [ptr tp 0, g] K) := by
  refine G.pickAll (As := [Pc s, ob DraftR b d, own tp (t.cells b)]) ?_
  show G w0 (Pc s :: ob DraftR b d :: own tp (t.cells b) :: M) _
  refine C_table_table_each ?_
  unfold S_table_table_each
  try simp (maxSteps := 2000000) only [fuse_and, fuse_or, fuse_step, fuse_pair, fuse_in, andP_true]
  try simp (maxSteps := 2000000) only [↓RG, RP, true_and, and_true, beq_true, beq_false, Bool.true_beq, Bool.false_beq, BEq.rfl, Int.reduceEq, Int.reduceLT, Int.reduceLE, Nat.reduceEqDiff, decide_true, decide_false, Bool.not_true, Bool.not_false, Bool.and_true, Bool.true_and, Bool.and_false, Bool.false_and, Bool.or_true, Bool.true_or, Bool.or_false, Bool.false_or, Bool.not_not]
  refine G.loop1 (σ := Nat × σ × DrS) (fun z => i64 z.1) (fun z => Pc z.2.1 :: ob DraftR b z.2.2 :: own tp (t.cells b) :: M) (fun z => z.1 ≤ t.wide.toNat ∧ StOk z.2.2 (m + z.1) ∧ Good z.2.1 z.2.2.steps ∧ tEach f t s d = eachN f t (t.wide.toNat - z.1) z.1 z.2.1 z.2.2) (fun z => t.wide.toNat - z.1) (0, s, d) rfl rfl ⟨by simp, hs, hg, rfl⟩ ?_
  rintro ⟨i, s1, d1⟩ ⟨hi, h1, hg1, hp⟩ J hJ
  simp only at hi h1 hg1 hp hJ ⊢
  try simp (maxSteps := 2000000) only [↓RG, RP, true_and, and_true, beq_true, beq_false, Bool.true_beq, Bool.false_beq, BEq.rfl, Int.reduceEq, Int.reduceLT, Int.reduceLE, Nat.reduceEqDiff, decide_true, decide_false, Bool.not_true, Bool.not_false, Bool.and_true, Bool.true_and, Bool.and_false, Bool.false_and, Bool.or_true, Bool.true_or, Bool.or_false, Bool.false_or, Bool.not_not]
  refine G.cond (fun h => ?_) (fun h => ?_)
  · have hi2 : i < t.wide.toNat := by simp at h; omega
    have hn : t.wide.toNat - i = (t.wide.toNat - (i + 1)) + 1 := by omega
    rw [hn] at hp
    unfold eachN at hp
    simp only at hp
    refine G.drew ?_
    try simp (maxSteps := 2000000) only [↓RG, RP, true_and, and_true, beq_true, beq_false, Bool.true_beq, Bool.false_beq, BEq.rfl, Int.reduceEq, Int.reduceLT, Int.reduceLE, Nat.reduceEqDiff, decide_true, decide_false, Bool.not_true, Bool.not_false, Bool.and_true, Bool.true_and, Bool.and_false, Bool.false_and, Bool.or_true, Bool.true_or, Bool.or_false, Bool.false_or, Bool.not_not]
    refine s_draft_Place (d := d1) ?_
    have hps := dPlace_steps (d := d1) (a := w64 (t.chains + (i : Int)))
    generalize dPlace d1 (w64 (t.chains + (i : Int))) = p at hp hps ⊢
    obtain ⟨d2, at0⟩ := p
    simp only at hp hps ⊢
    try simp (maxSteps := 2000000) only [↓RG, RP, true_and, and_true, beq_true, beq_false, Bool.true_beq, Bool.false_beq, BEq.rfl, Int.reduceEq, Int.reduceLT, Int.reduceLE, Nat.reduceEqDiff, decide_true, decide_false, Bool.not_true, Bool.not_false, Bool.and_true, Bool.true_and, Bool.and_false, Bool.false_and, Bool.or_true, Bool.true_or, Bool.or_false, Bool.false_or, Bool.not_not]
    refine G.loop1 (σ := Int × σ × DrS) (fun z => i64 z.1) (fun z => Pc z.2.1 :: ob DraftR b z.2.2 :: own tp (t.cells b) :: M) (fun z => StOk z.2.2 (m + i) ∧ Good z.2.1 z.2.2.steps ∧ inN f (fuel d2) s1 d2 at0 = inN f (fuel z.2.2) z.2.1 z.2.2 z.1) (fun z => fuel z.2.2) (at0, s1, d2) rfl rfl ⟨h1.eq hps, by simp only; rw [hps]; exact hg1, rfl⟩ ?_
    rintro ⟨a1, s2, d3⟩ ⟨h3, hg3, hq⟩ J2 hJ2
    simp only at h3 hg3 hq hJ2 ⊢
    have hfd : fuel d3 = (2048 - d3.steps).toNat + 1 := rfl
    by_cases ha : a1 = 0
    · subst ha
      rw [hfd, inN_stop rfl] at hq
      try simp (maxSteps := 2000000) only [↓RG, RP, true_and, and_true, beq_true, beq_false, Bool.true_beq, Bool.false_beq, BEq.rfl, Int.reduceEq, Int.reduceLT, Int.reduceLE, Nat.reduceEqDiff, decide_true, decide_false, Bool.not_true, Bool.not_false, Bool.and_true, Bool.true_and, Bool.and_false, Bool.false_and, Bool.or_true, Bool.true_or, Bool.or_false, Bool.false_or, Bool.not_not]
      rw [wsucc (by omega)]
      exact hJ (i + 1, s2, d3) ⟨by simp only; omega, by unfold StOk at h3 ⊢; simp only; omega, hg3, by rw [hp, hq]⟩ (by simp only; omega)
    · try simp (maxSteps := 2000000) only [↓RG, RP, true_and, and_true, beq_true, beq_false, Bool.true_beq, Bool.false_beq, BEq.rfl, Int.reduceEq, Int.reduceLT, Int.reduceLE, Nat.reduceEqDiff, decide_true, decide_false, Bool.not_true, Bool.not_false, Bool.and_true, Bool.true_and, Bool.and_false, Bool.false_and, Bool.or_true, Bool.true_or, Bool.or_false, Bool.false_or, Bool.not_not, ha]
      refine s_draft_Step (d := d3) ?_
      by_cases he : (dStep d3).err = 0
      · have hfu := fuel_succ h3 (by omega) he
        have hok := dStep_ok h3 (by omega) he
        rw [hfu, inN_step ha he] at hq
        try simp (maxSteps := 2000000) only [↓RG, RP, true_and, and_true, beq_true, beq_false, Bool.true_beq, Bool.false_beq, BEq.rfl, Int.reduceEq, Int.reduceLT, Int.reduceLE, Nat.reduceEqDiff, decide_true, decide_false, Bool.not_true, Bool.not_false, Bool.and_true, Bool.true_and, Bool.and_false, Bool.false_and, Bool.or_true, Bool.true_or, Bool.or_false, Bool.false_or, Bool.not_not, eq_true he]
        refine s_draft_Place (d := dStep d3) ?_
        have hps2 := dPlace_steps (d := dStep d3) (a := w64 (a1 + 2))
        generalize dPlace (dStep d3) (w64 (a1 + 2)) = p2 at hq hps2 ⊢
        obtain ⟨d4, at2⟩ := p2
        simp only at hq hps2 ⊢
        try simp (maxSteps := 2000000) only [↓RG, RP, true_and, and_true, beq_true, beq_false, Bool.true_beq, Bool.false_beq, BEq.rfl, Int.reduceEq, Int.reduceLT, Int.reduceLE, Nat.reduceEqDiff, decide_true, decide_false, Bool.not_true, Bool.not_false, Bool.and_true, Bool.true_and, Bool.and_false, Bool.false_and, Bool.or_true, Bool.true_or, Bool.or_false, Bool.false_or, Bool.not_not]
        have hss := dStep_steps h3 (by omega)
        have hlt := hss.2 he
        have e4 : d4.steps = d3.steps + 1 := by rw [hps2, hss.1]
        have hg4 : Good s2 (d4.steps - 1) := by rw [e4, Int.add_sub_cancel]; exact hg3
        have hff := hfs s2 d4 a1 hg4
        have e5 : (f s2 d4 a1).2.steps = (dStep d3).steps := by rw [hff.2, hps2]
        refine hcb s2 d4 a1 _ hg4 (by omega) ?_
        exact hJ2 (at2, (f s2 d4 a1).1, (f s2 d4 a1).2) ⟨hok.eq e5, by simp only; rw [hff.2]; exact hff.1, by rw [hq]; show inN f (fuel (dStep d3)) _ _ _ = inN f (fuel (f s2 d4 a1).2) _ _ _; rw [fuel_eq e5]⟩ (by simp only; rw [fuel_eq e5]; omega)
      · rw [hfd, inN_fail ha he] at hq
        have hss := dStep_steps h3 (by omega)
        try simp (maxSteps := 2000000) only [↓RG, RP, true_and, and_true, beq_true, beq_false, Bool.true_beq, Bool.false_beq, BEq.rfl, Int.reduceEq, Int.reduceLT, Int.reduceLE, Nat.reduceEqDiff, decide_true, decide_false, Bool.not_true, Bool.not_false, Bool.and_true, Bool.true_and, Bool.and_false, Bool.false_and, Bool.or_true, Bool.true_or, Bool.or_false, Bool.false_or, Bool.not_not, he]
        rw [wsucc (by omega)]
        exact hJ (i + 1, s2, dStep d3) ⟨by simp only; omega, by unfold StOk at h3 ⊢; simp only; omega, by simp only; rw [hss.1]; exact hmono _ _ hg3, by rw [hp, hq]⟩ (by simp only; omega)
  · have hi2 : t.wide.toNat - i = 0 := by simp at h; omega
    rw [hi2] at hp
    unfold eachN at hp
    rw [hp] at hK
    exact hK

end
end Go.Proofs.Ytokbiojkpldfeaa.S
