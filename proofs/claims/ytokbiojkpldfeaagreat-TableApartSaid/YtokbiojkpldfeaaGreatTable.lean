/-
  CHAPTER 18: package table: its model on a draft; contracts of its inner functions.
-/
import Derived.Test.YtokbiojkpldfeaaGreatDraft
namespace Go.Proofs.YtokbiojkpldfeaaGreat.S
open Go Go.Proofs
set_option linter.unusedVariables false
set_option linter.unusedSimpArgs false

/-- a table in a draft -/
structure TbS where
  head : Int
  wide : Int
  chains : Int
  keys : Int
abbrev TbS.cells (t : TbS) (dp : Nat) : List Value := [ptr dp 0, i64 t.head, i64 t.wide, i64 t.chains, u64 t.keys]

def uAnd (a b : Int) : Int := IntKind.wrap .u64 (BitVec.ofInt IntKind.u64.bits a &&& BitVec.ofInt IntKind.u64.bits b).toNat
def iAnd (a b : Int) : Int := IntKind.wrap .i64 (BitVec.ofInt IntKind.i64.bits a &&& BitVec.ofInt IntKind.i64.bits b).toNat
def badWide (n : Int) : Bool := decide (n < 2) || decide (16 < n) || !decide (uAnd n (wU (n - 1)) = 0)
def tOpen (d : DrS) (root : Int) : DrS × TbS :=
  if (dPlace d root).2 = 0 then ((dPlace d root).1, ⟨0, 0, 0, 0⟩)
  else
    let h := (dPlace d root).2
    let k := dRead (dPlace d root).1 (w64 (h + 0))
    let n := dRead k.1 (w64 (h + 1))
    let c := dPlace (if badWide n.2 = true then dFail n.1 2 else n.1) (w64 (h + 2))
    (c.1, ⟨h, w64 (if badWide n.2 = true then 2 else n.2), c.2, k.2⟩)
def tMade (d : DrS) (root : Int) : DrS × TbS :=
  let h := dAlloc d 3
  let c := dAlloc h.1 2
  let d2 := dPoint (dPoint c.1 (w64 (c.2 + 0)) 0) (w64 (c.2 + 1)) 0
  let d5 := dPoint (dPoint (dPoint d2 (w64 (h.2 + 0)) 0) (w64 (h.2 + 1)) 2) (w64 (h.2 + 2)) c.2
  (dPoint d5 root h.2, ⟨h.2, 2, c.2, 0⟩)
def tChain (k wide : Int) : Int := iAnd (w64 ((wU (k * 11400714819323198485)).fdiv (2 ^ min (60 : Int).toNat IntKind.u64.bits))) (w64 (wide - 1))
def seekN (k : Int) : Nat → DrS → Int → DrS × Int × Int
  | 0, d, link => (d, link, 0)
  | n + 1, d, link =>
    if (dStep d).err = 0 then
      (if (dPlace (dStep d) link).2 = 0 then ((dPlace (dStep d) link).1, link, 0)
       else if (dRead (dPlace (dStep d) link).1 (w64 ((dPlace (dStep d) link).2 + 0))).2 = k then ((dRead (dPlace (dStep d) link).1 (w64 ((dPlace (dStep d) link).2 + 0))).1, link, (dPlace (dStep d) link).2)
       else seekN k n (dRead (dPlace (dStep d) link).1 (w64 ((dPlace (dStep d) link).2 + 0))).1 (w64 ((dPlace (dStep d) link).2 + 2)))
    else (dStep d, link, 0)
def fuel (d : DrS) : Nat := (2048 - d.steps).toNat + 1
def tSeek (d : DrS) (t : TbS) (k : Int) : DrS × Int × Int := seekN k (fuel d) d (w64 (t.chains + tChain k t.wide))

/-! ### steps -/
theorem dFail_steps {d : DrS} {e : Int} : (dFail d e).steps = d.steps := by unfold dFail; split <;> rfl
theorem dRead_steps {d : DrS} {a : Int} : (dRead d a).1.steps = d.steps := by unfold dRead; split <;> first | rw [dFail_steps] | rfl
theorem dName_steps {d : DrS} {a : Int} : (dName d a).1.steps = d.steps := by unfold dName; split <;> first | rw [dFail_steps] | rfl
theorem dPlace_steps {d : DrS} {a : Int} : (dPlace d a).1.steps = d.steps := by unfold dPlace; rw [dName_steps, dRead_steps]
theorem dWrite_steps {d : DrS} {a x : Int} : (dWrite d a x).steps = d.steps := by unfold dWrite; split <;> first | rw [dFail_steps] | rfl
theorem dPoint_steps {d : DrS} {a x : Int} : (dPoint d a x).steps = d.steps := dWrite_steps
theorem dAlloc_steps {d : DrS} {a : Int} : (dAlloc d a).1.steps = d.steps := by unfold dAlloc; split <;> first | rw [dFail_steps] | rfl
theorem dFree_steps {d : DrS} {a : Int} : (dFree d a).steps = d.steps := by unfold dFree; split <;> first | rw [dFail_steps] | rfl
/-- steps that may be -/
def StOk (d : DrS) (m : Nat) : Prop := 0 ≤ d.steps ∧ d.steps ≤ 2049 + m
theorem dStep_steps {d : DrS} {m : Nat} (h : StOk d m) (hm : m ≤ 1000000) : (dStep d).steps = d.steps + 1 ∧ ((dStep d).err = 0 → d.steps < 2048) := by
  unfold StOk at h
  have w : w64 (d.steps + 1) = d.steps + 1 := wi64 (by omega) (by omega)
  unfold dStep
  rw [w]
  split
  · refine ⟨by rw [dFail_steps], fun h2 => ?_⟩
    unfold dFail at h2
    split at h2
    · simp at h2
    · rename_i h3; exact absurd h2 h3
  · exact ⟨rfl, fun _ => by omega⟩
theorem dStep_ok {d : DrS} {m : Nat} (h : StOk d m) (hm : m ≤ 1000000) (he : (dStep d).err = 0) : StOk (dStep d) m := by
  have := dStep_steps h hm
  have h2 := this.2 he
  unfold StOk at h ⊢
  omega

section
variable {w0 : Base} {L M : List Asn} {K : KV} {F : World → Prop} {C : Asn → List Asn} {b tp : Nat} {d : DrS} {t : TbS} {n a x e : Int}

theorem s_table_chain {k wide : Int} (hK : G w0 L (K (i64 (tChain k wide)))) : G w0 L (CP Tryz.prog Fn.table_chain [u64 k, i64 wide] K) := by
  refine C_table_chain ?_
  unfold S_table_chain
  try simp (maxSteps := 2000000) only [↓RG, RP, RB, BEq.rfl, Int.reduceEq, Int.reduceLT, Int.reduceLE, Nat.reduceEqDiff]
  exact hK

theorem s_table_open {root : Int} [i : SelOb L DraftR b d C] (hK : ∀ tp, G w0 (own tp ((tOpen d root).2.cells b) :: C (ob DraftR b (tOpen d root).1)) (K (ptr tp 0))) : G w0 L (CP Tryz.prog Fn.table_open [ptr b 0, i64 root] K) := by
  refine i.useNM (P := fun _ => True) (N := fun tp => own tp ((tOpen d root).2.cells b)) (A' := fun _ => ob DraftR b (tOpen d root).1) (F' := fun tp => K (ptr tp 0)) (fun M hM hK => ?_) (fun tp _ => hK tp)
  refine C_table_open ?_
  unfold S_table_open
  unfold tOpen at hK
  try simp (maxSteps := 2000000) only [fuse_and, fuse_or, fuse_step, fuse_pair, fuse_in, andP_true]
  refine s_draft_Place (d := d) ?_
  generalize dPlace d root = p at hK ⊢
  obtain ⟨d1, h⟩ := p
  simp only at hK ⊢
  try simp (maxSteps := 2000000) only [↓RG, RP, RB, BEq.rfl, Int.reduceEq, Int.reduceLT, Int.reduceLE, Nat.reduceEqDiff]
  refine G.box fun tp => ?_
  by_cases h0 : h = 0
  · rw [if_pos h0] at hK
    subst h0
    try simp (maxSteps := 2000000) only [↓RG, RP, RB, BEq.rfl, Int.reduceEq, Int.reduceLT, Int.reduceLE, Nat.reduceEqDiff]
    exact hK tp trivial
  rw [if_neg h0] at hK
  try simp (maxSteps := 2000000) only [↓RG, RP, RB, BEq.rfl, Int.reduceEq, Int.reduceLT, Int.reduceLE, Nat.reduceEqDiff, h0]
  refine s_draft_Read (d := d1) ?_
  generalize dRead d1 (w64 (h + 0)) = p at hK ⊢
  obtain ⟨d2, keys⟩ := p
  simp only at hK ⊢
  try simp (maxSteps := 2000000) only [↓RG, RP, RB, BEq.rfl, Int.reduceEq, Int.reduceLT, Int.reduceLE, Nat.reduceEqDiff]
  refine s_draft_Read (d := d2) ?_
  generalize dRead d2 (w64 (h + 1)) = p at hK ⊢
  obtain ⟨d3, n⟩ := p
  simp only at hK ⊢
  try simp (maxSteps := 2000000) only [↓RG, RP, RB, BEq.rfl, Int.reduceEq, Int.reduceLT, Int.reduceLE, Nat.reduceEqDiff]
  refine G.joini1 ?_
  have eb : (decide (n < 2) || decide (16 < n) || !decide (uAnd n (wU (n - 1)) = 0)) = badWide n := rfl
  cases hb : badWide n
  · have hb2 : (decide (n < 2) || decide (16 < n) || !decide (IntKind.wrap .u64 (BitVec.ofInt IntKind.u64.bits n &&& BitVec.ofInt IntKind.u64.bits (IntKind.wrap .u64 (n - 1))).toNat = 0)) = false := hb
    rw [hb] at hK
    simp only [Bool.false_eq_true, if_false] at hK
    rw [hb2]
    try simp (maxSteps := 2000000) only [↓RG, RP, RB, BEq.rfl, Int.reduceEq, Int.reduceLT, Int.reduceLE, Nat.reduceEqDiff]
    refine s_draft_Place (d := d3) ?_
    try simp (maxSteps := 2000000) only [↓RG, RP, RB, BEq.rfl, Int.reduceEq, Int.reduceLT, Int.reduceLE, Nat.reduceEqDiff]
    exact hK tp trivial
  · have hb2 : (decide (n < 2) || decide (16 < n) || !decide (IntKind.wrap .u64 (BitVec.ofInt IntKind.u64.bits n &&& BitVec.ofInt IntKind.u64.bits (IntKind.wrap .u64 (n - 1))).toNat = 0)) = true := hb
    rw [hb] at hK
    simp only [if_true] at hK
    rw [hb2]
    try simp (maxSteps := 2000000) only [↓RG, RP, RB, BEq.rfl, Int.reduceEq, Int.reduceLT, Int.reduceLE, Nat.reduceEqDiff]
    refine s_draft_Fail (d := d3) ?_
    try simp (maxSteps := 2000000) only [↓RG, RP, RB, BEq.rfl, Int.reduceEq, Int.reduceLT, Int.reduceLE, Nat.reduceEqDiff]
    refine s_draft_Place (d := dFail d3 2) ?_
    try simp (maxSteps := 2000000) only [↓RG, RP, RB, BEq.rfl, Int.reduceEq, Int.reduceLT, Int.reduceLE, Nat.reduceEqDiff]
    exact hK tp trivial

theorem s_table_made {root : Int} [i : SelOb L DraftR b d C] (hK : ∀ tp, G w0 (own tp ((tMade d root).2.cells b) :: C (ob DraftR b (tMade d root).1)) (K (ptr tp 0))) : G w0 L (CP Tryz.prog Fn.table_made [ptr b 0, i64 root] K) := by
  refine i.useNM (P := fun _ => True) (N := fun tp => own tp ((tMade d root).2.cells b)) (A' := fun _ => ob DraftR b (tMade d root).1) (F' := fun tp => K (ptr tp 0)) (fun M hM hK => ?_) (fun tp _ => hK tp)
  refine C_table_made ?_
  unfold S_table_made
  unfold tMade at hK
  refine s_draft_Alloc (d := d) ?_
  generalize dAlloc d 3 = p at hK ⊢
  obtain ⟨d1, h⟩ := p
  simp only at hK ⊢
  refine s_draft_Alloc (d := d1) ?_
  generalize dAlloc d1 2 = p at hK ⊢
  obtain ⟨d2, c⟩ := p
  simp only at hK ⊢
  try simp (maxSteps := 2000000) only [↓RG, RB, BEq.rfl, Int.reduceEq, Int.reduceLT, Int.reduceLE, Nat.reduceEqDiff]
  refine G.box fun tp => ?_
  refine G.loop1 (σ := Nat) (fun k => i64 k) (fun k => own tp [ptr b 0, i64 h, i64 2, i64 c, u64 0] :: ob DraftR b (if k = 0 then d2 else if k = 1 then dPoint d2 (w64 (c + 0)) 0 else dPoint (dPoint d2 (w64 (c + 0)) 0) (w64 (c + 1)) 0) :: M) (fun k => k ≤ 2) (fun k => 2 - k) 0 rfl rfl (by omega) ?_
  intro k hk J hJ
  try simp (maxSteps := 2000000) only [↓RG, RB, BEq.rfl, Int.reduceEq, Int.reduceLT, Int.reduceLE, Nat.reduceEqDiff]
  refine G.cond (fun g => ?_) (fun g => ?_)
  · have hk2 : k < 2 := by simp at g; omega
    try simp (maxSteps := 2000000) only [↓RG, RB, BEq.rfl, Int.reduceEq, Int.reduceLT, Int.reduceLE, Nat.reduceEqDiff]
    refine s_draft_Point (d := if k = 0 then d2 else if k = 1 then dPoint d2 (w64 (c + 0)) 0 else dPoint (dPoint d2 (w64 (c + 0)) 0) (w64 (c + 1)) 0) ?_
    try simp (maxSteps := 2000000) only [↓RG, RB, BEq.rfl, Int.reduceEq, Int.reduceLT, Int.reduceLE, Nat.reduceEqDiff]
    rw [wsucc (by omega)]
    have hn := hJ (k + 1) (by omega) (by omega)
    rcases (show k = 0 ∨ k = 1 by omega) with rfl | rfl
    · exact hn
    · exact hn
  · have hk2 : k = 2 := by simp at g; omega
    subst hk2
    try simp (maxSteps := 2000000) only [↓RG, RB, BEq.rfl, Int.reduceEq, Int.reduceLT, Int.reduceLE, Nat.reduceEqDiff]
    refine s_draft_Point (d := dPoint (dPoint d2 (w64 (c + 0)) 0) (w64 (c + 1)) 0) ?_
    try simp (maxSteps := 2000000) only [↓RG, RB, BEq.rfl, Int.reduceEq, Int.reduceLT, Int.reduceLE, Nat.reduceEqDiff]
    refine s_draft_Point (d := dPoint (dPoint (dPoint d2 (w64 (c + 0)) 0) (w64 (c + 1)) 0) (w64 (h + 0)) 0) ?_
    refine G.drew ?_
    try simp (maxSteps := 2000000) only [↓RG, RB, BEq.rfl, Int.reduceEq, Int.reduceLT, Int.reduceLE, Nat.reduceEqDiff]
    refine s_draft_Point (d := dPoint (dPoint (dPoint (dPoint d2 (w64 (c + 0)) 0) (w64 (c + 1)) 0) (w64 (h + 0)) 0) (w64 (h + 1)) 2) ?_
    try simp (maxSteps := 2000000) only [↓RG, RB, BEq.rfl, Int.reduceEq, Int.reduceLT, Int.reduceLE, Nat.reduceEqDiff]
    refine s_draft_Point (d := dPoint (dPoint (dPoint (dPoint (dPoint d2 (w64 (c + 0)) 0) (w64 (c + 1)) 0) (w64 (h + 0)) 0) (w64 (h + 1)) 2) (w64 (h + 2)) c) ?_
    exact hK tp trivial

theorem fuel_succ {d : DrS} {m : Nat} (h : StOk d m) (hm : m ≤ 1000000) (he : (dStep d).err = 0) : fuel d = fuel (dStep d) + 1 := by
  have := dStep_steps h hm
  have h2 := this.2 he
  unfold StOk at h
  unfold fuel
  rw [this.1]
  omega
theorem StOk.eq {d d' : DrS} {m : Nat} (h : StOk d m) (e : d'.steps = d.steps) : StOk d' m := by unfold StOk at *; rw [e]; exact h
theorem fuel_eq {d d' : DrS} (e : d'.steps = d.steps) : fuel d' = fuel d := by unfold fuel; rw [e]

theorem s_table_seek {m : Nat} {k : Int} (hs : StOk d m) (hm : m ≤ 1000000) [PickAll [own tp (t.cells b), ob DraftR b d] L M] (hK : G w0 (own tp (t.cells b) :: ob DraftR b (tSeek d t k).1 :: M) (K (.tuple #[i64 (tSeek d t k).2.1, i64 (tSeek d t k).2.2]))) : G w0 L (CP Tryz.prog Fn.table_table_seek [ptr tp 0, u64 k] K) := by
  refine G.pickAll (As := [own tp (t.cells b), ob DraftR b d]) ?_
  show G w0 (own tp (t.cells b) :: ob DraftR b d :: M) _
  refine C_table_table_seek ?_
  unfold S_table_table_seek
  try simp (maxSteps := 2000000) only [fuse_and, fuse_or, fuse_step, fuse_pair, fuse_in, andP_true]
  refine G.drew ?_
  try simp (maxSteps := 2000000) only [↓RG, RP, RB, BEq.rfl, Int.reduceEq, Int.reduceLT, Int.reduceLE, Nat.reduceEqDiff]
  refine s_table_chain ?_
  try simp (maxSteps := 2000000) only [↓RG, RP, RB, BEq.rfl, Int.reduceEq, Int.reduceLT, Int.reduceLE, Nat.reduceEqDiff]
  refine G.loop1 (σ := DrS × Int) (fun z => i64 z.2) (fun z => own tp (t.cells b) :: ob DraftR b z.1 :: M) (fun z => StOk z.1 m ∧ tSeek d t k = seekN k (fuel z.1) z.1 z.2) (fun z => fuel z.1) (d, w64 (t.chains + tChain k t.wide)) rfl rfl ⟨hs, rfl⟩ ?_
  rintro ⟨d1, link⟩ ⟨h1, hp⟩ J hJ
  simp only at h1 hp hJ ⊢
  rw [hp] at hK
  try simp (maxSteps := 2000000) only [↓RG, RP, RB, BEq.rfl, Int.reduceEq, Int.reduceLT, Int.reduceLE, Nat.reduceEqDiff]
  refine s_draft_Step (d := d1) ?_
  by_cases he : (dStep d1).err = 0
  · have hfu := fuel_succ h1 hm he
    have hok := dStep_ok h1 hm he
    rw [hfu] at hK hp
    unfold seekN at hK hp
    rw [if_pos he] at hK hp
    try simp (maxSteps := 2000000) only [↓RG, RP, RB, BEq.rfl, Int.reduceEq, Int.reduceLT, Int.reduceLE, Nat.reduceEqDiff, eq_true he]
    refine s_draft_Place (d := dStep d1) ?_
    have hps := dPlace_steps (d := dStep d1) (a := link)
    generalize dPlace (dStep d1) link = p at hK hp hps ⊢
    obtain ⟨d2, at_⟩ := p
    simp only at hK hp hps ⊢
    try simp (maxSteps := 2000000) only [↓RG, RP, RB, BEq.rfl, Int.reduceEq, Int.reduceLT, Int.reduceLE, Nat.reduceEqDiff]
    by_cases h0 : at_ = 0
    · rw [if_pos h0] at hK
      subst h0
      try simp (maxSteps := 2000000) only [↓RG, RP, RB, BEq.rfl, Int.reduceEq, Int.reduceLT, Int.reduceLE, Nat.reduceEqDiff]
      exact hK
    rw [if_neg h0] at hK hp
    try simp (maxSteps := 2000000) only [↓RG, RP, RB, BEq.rfl, Int.reduceEq, Int.reduceLT, Int.reduceLE, Nat.reduceEqDiff, h0]
    refine s_draft_Read (d := d2) ?_
    have hrs := dRead_steps (d := d2) (a := w64 (at_ + 0))
    generalize dRead d2 (w64 (at_ + 0)) = r at hK hp hrs ⊢
    obtain ⟨d3, x⟩ := r
    simp only at hK hp hrs ⊢
    try simp (maxSteps := 2000000) only [↓RG, RP, RB, BEq.rfl, Int.reduceEq, Int.reduceLT, Int.reduceLE, Nat.reduceEqDiff]
    by_cases hx : x = k
    · rw [if_pos hx] at hK
      try simp (maxSteps := 2000000) only [↓RG, RP, RB, BEq.rfl, Int.reduceEq, Int.reduceLT, Int.reduceLE, Nat.reduceEqDiff, eq_true hx]
      exact hK
    · rw [if_neg hx] at hp
      try simp (maxSteps := 2000000) only [↓RG, RP, RB, BEq.rfl, Int.reduceEq, Int.reduceLT, Int.reduceLE, Nat.reduceEqDiff, hx]
      have e3 : d3.steps = (dStep d1).steps := by rw [hrs, hps]
      exact hJ (d3, w64 (at_ + 2)) ⟨hok.eq e3, by rw [hp]; show _ = seekN k (fuel d3) d3 _; rw [fuel_eq e3]⟩ (by simp only; rw [fuel_eq e3]; omega)
  · have hn : fuel d1 = (2048 - d1.steps).toNat + 1 := rfl
    rw [hn] at hK
    unfold seekN at hK
    rw [if_neg he] at hK
    try simp (maxSteps := 2000000) only [↓RG, RP, RB, BEq.rfl, Int.reduceEq, Int.reduceLT, Int.reduceLE, Nat.reduceEqDiff, he]
    exact hK
end

/-! ### each node -/
section
variable {σ : Type} (f : σ → DrS → Int → σ × DrS)
def inN : Nat → σ → DrS → Int → σ × DrS
  | 0, s, d, _ => (s, d)
  | n + 1, s, d, at_ =>
    if at_ = 0 then (s, d)
    else if (dStep d).err = 0 then inN n (f s (dPlace (dStep d) (w64 (at_ + 2))).1 at_).1 (f s (dPlace (dStep d) (w64 (at_ + 2))).1 at_).2 (dPlace (dStep d) (w64 (at_ + 2))).2
    else (s, dStep d)
/-- chains from the i-th on, n of them -/
def eachN (t : TbS) : Nat → Nat → σ → DrS → σ × DrS
  | 0, _, s, d => (s, d)
  | n + 1, i, s, d =>
    let p := dPlace d (w64 (t.chains + (i : Int)))
    let q := inN f (fuel p.1) s p.1 p.2
    eachN t n (i + 1) q.1 q.2
def tEach (t : TbS) (s : σ) (d : DrS) : σ × DrS := eachN f t t.wide.toNat 0 s d
variable {f}
theorem inN_stop {n : Nat} {s : σ} {d : DrS} {at_ : Int} (h : at_ = 0) : inN f (n + 1) s d at_ = (s, d) := by unfold inN; rw [if_pos h]
theorem inN_fail {n : Nat} {s : σ} {d : DrS} {at_ : Int} (h : ¬ at_ = 0) (he : ¬ (dStep d).err = 0) : inN f (n + 1) s d at_ = (s, dStep d) := by unfold inN; rw [if_neg h, if_neg he]
theorem inN_step {n : Nat} {s : σ} {d : DrS} {at_ : Int} (h : ¬ at_ = 0) (he : (dStep d).err = 0) : inN f (n + 1) s d at_ = inN f n (f s (dPlace (dStep d) (w64 (at_ + 2))).1 at_).1 (f s (dPlace (dStep d) (w64 (at_ + 2))).1 at_).2 (dPlace (dStep d) (w64 (at_ + 2))).2 := by
  conv => lhs; unfold inN
  rw [if_neg h, if_pos he]

variable {w0 : Base} {L M : List Asn} {K : KV} {F : World → Prop} {C : Asn → List Asn} {b tp : Nat} {d : DrS} {t : TbS} {n a x e : Int}

/-- the callback turns one piece, and the draft, but not its steps -/
theorem s_table_each {g : Value} {Pc : σ → Asn} {Good : σ → Int → Prop} {s : σ} {m : Nat} (hs : StOk d m) (hm : m ≤ 1000) (hw : t.wide ≤ 1000) (hg : Good s d.steps) (hmono : ∀ s k, Good s k → Good s (k + 1)) (hfs : ∀ s d a, Good s (d.steps - 1) → Good (f s d a).1 d.steps ∧ (f s d a).2.steps = d.steps)
    (hcb : ∀ (s : σ) (d : DrS) (a : Int) (K' : KV), Good s (d.steps - 1) → d.steps ≤ 2048 → G w0 (Pc (f s d a).1 :: ob DraftR b (f s d a).2 :: own tp (t.cells b) :: M) (K' (.tuple #[])) → G w0 (Pc s :: ob DraftR b d :: own tp (t.cells b) :: M) (dynW Tryz.prog g [i64 a] K'))
    [PickAll [Pc s, ob DraftR b d, own tp (t.cells b)] L M] (hK : G w0 (Pc (tEach f t s d).1 :: ob DraftR b (tEach f t s d).2 :: own tp (t.cells b) :: M) (K (.tuple #[]))) : G w0 L (CP Tryz.prog Fn.table_table_each [ptr tp 0, g] K) := by
  refine G.pickAll (As := [Pc s, ob DraftR b d, own tp (t.cells b)]) ?_
  show G w0 (Pc s :: ob DraftR b d :: own tp (t.cells b) :: M) _
  refine C_table_table_each ?_
  unfold S_table_table_each
  try simp (maxSteps := 2000000) only [fuse_and, fuse_or, fuse_step, fuse_pair, fuse_in, andP_true]
  try simp (maxSteps := 2000000) only [↓RG, RP, RB, BEq.rfl, Int.reduceEq, Int.reduceLT, Int.reduceLE, Nat.reduceEqDiff]
  refine G.loop1 (σ := Nat × σ × DrS) (fun z => i64 z.1) (fun z => Pc z.2.1 :: ob DraftR b z.2.2 :: own tp (t.cells b) :: M) (fun z => z.1 ≤ t.wide.toNat ∧ StOk z.2.2 (m + z.1) ∧ Good z.2.1 z.2.2.steps ∧ tEach f t s d = eachN f t (t.wide.toNat - z.1) z.1 z.2.1 z.2.2) (fun z => t.wide.toNat - z.1) (0, s, d) rfl rfl ⟨by simp, hs, hg, rfl⟩ ?_
  rintro ⟨i, s1, d1⟩ ⟨hi, h1, hg1, hp⟩ J hJ
  simp only at hi h1 hg1 hp hJ ⊢
  try simp (maxSteps := 2000000) only [↓RG, RP, RB, BEq.rfl, Int.reduceEq, Int.reduceLT, Int.reduceLE, Nat.reduceEqDiff]
  refine G.cond (fun h => ?_) (fun h => ?_)
  · have hi2 : i < t.wide.toNat := by simp at h; omega
    have hn : t.wide.toNat - i = (t.wide.toNat - (i + 1)) + 1 := by omega
    rw [hn] at hp
    unfold eachN at hp
    simp only at hp
    refine G.drew ?_
    try simp (maxSteps := 2000000) only [↓RG, RP, RB, BEq.rfl, Int.reduceEq, Int.reduceLT, Int.reduceLE, Nat.reduceEqDiff]
    refine s_draft_Place (d := d1) ?_
    have hps := dPlace_steps (d := d1) (a := w64 (t.chains + (i : Int)))
    generalize dPlace d1 (w64 (t.chains + (i : Int))) = p at hp hps ⊢
    obtain ⟨d2, at0⟩ := p
    simp only at hp hps ⊢
    try simp (maxSteps := 2000000) only [↓RG, RP, RB, BEq.rfl, Int.reduceEq, Int.reduceLT, Int.reduceLE, Nat.reduceEqDiff]
    refine G.loop1 (σ := Int × σ × DrS) (fun z => i64 z.1) (fun z => Pc z.2.1 :: ob DraftR b z.2.2 :: own tp (t.cells b) :: M) (fun z => StOk z.2.2 (m + i) ∧ Good z.2.1 z.2.2.steps ∧ inN f (fuel d2) s1 d2 at0 = inN f (fuel z.2.2) z.2.1 z.2.2 z.1) (fun z => fuel z.2.2) (at0, s1, d2) rfl rfl ⟨h1.eq hps, by simp only; rw [hps]; exact hg1, rfl⟩ ?_
    rintro ⟨a1, s2, d3⟩ ⟨h3, hg3, hq⟩ J2 hJ2
    simp only at h3 hg3 hq hJ2 ⊢
    have hfd : fuel d3 = (2048 - d3.steps).toNat + 1 := rfl
    by_cases ha : a1 = 0
    · subst ha
      rw [hfd, inN_stop rfl] at hq
      try simp (maxSteps := 2000000) only [↓RG, RP, RB, BEq.rfl, Int.reduceEq, Int.reduceLT, Int.reduceLE, Nat.reduceEqDiff]
      rw [wsucc (by omega)]
      exact hJ (i + 1, s2, d3) ⟨by simp only; omega, by unfold StOk at h3 ⊢; simp only; omega, hg3, by rw [hp, hq]⟩ (by simp only; omega)
    · try simp (maxSteps := 2000000) only [↓RG, RP, RB, BEq.rfl, Int.reduceEq, Int.reduceLT, Int.reduceLE, Nat.reduceEqDiff, ha]
      refine s_draft_Step (d := d3) ?_
      by_cases he : (dStep d3).err = 0
      · have hfu := fuel_succ h3 (by omega) he
        have hok := dStep_ok h3 (by omega) he
        rw [hfu, inN_step ha he] at hq
        try simp (maxSteps := 2000000) only [↓RG, RP, RB, BEq.rfl, Int.reduceEq, Int.reduceLT, Int.reduceLE, Nat.reduceEqDiff, eq_true he]
        refine s_draft_Place (d := dStep d3) ?_
        have hps2 := dPlace_steps (d := dStep d3) (a := w64 (a1 + 2))
        generalize dPlace (dStep d3) (w64 (a1 + 2)) = p2 at hq hps2 ⊢
        obtain ⟨d4, at2⟩ := p2
        simp only at hq hps2 ⊢
        try simp (maxSteps := 2000000) only [↓RG, RP, RB, BEq.rfl, Int.reduceEq, Int.reduceLT, Int.reduceLE, Nat.reduceEqDiff]
        have hss := dStep_steps h3 (by omega)
        have hlt := hss.2 he
        have e4 : d4.steps = d3.steps + 1 := by rw [hps2, hss.1]
        have hg4 : Good s2 (d4.steps - 1) := by rw [e4, Int.add_sub_cancel]; exact hg3
        have hff := hfs s2 d4 a1 hg4
        have e5 : (f s2 d4 a1).2.steps = (dStep d3).steps := by rw [hff.2, hps2]
        refine hcb s2 d4 a1 _ hg4 (by omega) ?_
        exact hJ2 (at2, (f s2 d4 a1).1, (f s2 d4 a1).2) ⟨hok.eq e5, by simp only; rw [hff.2]; exact hff.1, by rw [hq]; show inN f (fuel (dStep d3)) _ _ _ = inN f (fuel (f s2 d4 a1).2) _ _ _; rw [fuel_eq e5]⟩ (by simp only; rw [fuel_eq e5]; omega)
      · rw [hfd, inN_fail ha he] at hq
        have hss := dStep_steps h3 (by omega)
        try simp (maxSteps := 2000000) only [↓RG, RP, RB, BEq.rfl, Int.reduceEq, Int.reduceLT, Int.reduceLE, Nat.reduceEqDiff, he]
        rw [wsucc (by omega)]
        exact hJ (i + 1, s2, dStep d3) ⟨by simp only; omega, by unfold StOk at h3 ⊢; simp only; omega, by simp only; rw [hss.1]; exact hmono _ _ hg3, by rw [hp, hq]⟩ (by simp only; omega)
  · have hi2 : t.wide.toNat - i = 0 := by simp at h; omega
    rw [hi2] at hp
    unfold eachN at hp
    rw [hp] at hK
    exact hK

end
end Go.Proofs.YtokbiojkpldfeaaGreat.S

/-
  CHAPTER 18: package table: grow, the calls' own functions.
-/
namespace Go.Proofs.YtokbiojkpldfeaaGreat.S
open Go Go.Proofs
set_option linter.unusedVariables false
set_option linter.unusedSimpArgs false

theorem iAnd_le {a w : Int} (h : 0 ≤ w) (h2 : w ≤ 1000000) : 0 ≤ iAnd a w ∧ iAnd a w ≤ w := by
  unfold iAnd
  have e : (BitVec.ofInt IntKind.i64.bits w).toNat = w.toNat := by
    rw [BitVec.toNat_ofInt]
    show (w % (2 ^ 64 : Nat)).toNat = _
    omega
  have h3 : (BitVec.ofInt IntKind.i64.bits a &&& BitVec.ofInt IntKind.i64.bits w).toNat ≤ w.toNat := by
    rw [BitVec.toNat_and, e]; exact Nat.and_le_right
  rw [wi64 (by omega) (by omega)]
  omega
theorem tChain_lt {k w : Int} (h : 1 ≤ w) (h2 : w ≤ 1000) : 0 ≤ tChain k w ∧ tChain k w < w := by
  unfold tChain
  have e : w64 (w - 1) = w - 1 := wi64 (by omega) (by omega)
  rw [e]
  have := iAnd_le (a := w64 ((wU (k * 11400714819323198485)).fdiv (2 ^ min (60 : Int).toNat IntKind.u64.bits))) (w := w - 1) (by omega) (by omega)
  omega

/-! ### what is freed stays -/
theorem vWrite_rf {s : VwS} {a x : Int} : (vWrite s a x).1.l.r.f = s.l.r.f := by
  unfold vWrite
  split
  · show (lPut s.l a x).1.r.f = _
    unfold lPut
    split <;> rfl
  · rfl
theorem vRead_rf {s : VwS} {a : Int} : (vRead s a).1.l.r.f = s.l.r.f := by rw [vRead_l]
theorem aAgain_rf {s : VwS} {c b : Int} : (aAgain s c b).1.l.r.f = s.l.r.f := by
  unfold aAgain
  split
  · rfl
  · split
    · split <;> (simp only; rw [vTake_rf, vRead_rf])
    · exact vRead_rf
theorem aGrown_rf {s : VwS} {c : Int} : (aGrown s c).1.l.r.f = s.l.r.f := by
  unfold aGrown
  split
  · split
    · exact vRead_rf
    · split <;> (simp only; rw [vTake_rf, vRead_rf])
  · exact vRead_rf
theorem aAlloc_rf {s : VwS} {n : Int} : (aAlloc s n).1.l.r.f = s.l.r.f := by
  unfold aAlloc
  split
  · rfl
  · split
    · split
      · rw [aGrown_rf, vRead_rf]
      · rw [aAgain_rf, vRead_rf]
    · exact vRead_rf
abbrev DrS.rf (d : DrS) : List Int := d.v.l.r.f
theorem dFail_rf {d : DrS} {e : Int} : (dFail d e).rf = d.rf := by unfold dFail; split <;> rfl
theorem dRead_rf {d : DrS} {a : Int} : (dRead d a).1.rf = d.rf := by
  unfold dRead
  split
  · rw [dFail_rf]; exact vRead_rf
  · rfl
theorem dName_rf {d : DrS} {a : Int} : (dName d a).1.rf = d.rf := by unfold dName; split <;> first | exact dFail_rf | rfl
theorem dPlace_rf {d : DrS} {a : Int} : (dPlace d a).1.rf = d.rf := by unfold dPlace; rw [dName_rf, dRead_rf]
theorem dWrite_rf {d : DrS} {a x : Int} : (dWrite d a x).rf = d.rf := by
  unfold dWrite
  split
  · rw [dFail_rf]; exact vWrite_rf
  · rfl
theorem dPoint_rf {d : DrS} {a x : Int} : (dPoint d a x).rf = d.rf := dWrite_rf
theorem dAlloc_rf {d : DrS} {a : Int} : (dAlloc d a).1.rf = d.rf := by
  unfold dAlloc
  split
  · rw [dFail_rf]; exact aAlloc_rf
  · rfl
theorem dStep_rf {d : DrS} : (dStep d).rf = d.rf := by unfold dStep; split <;> first | exact dFail_rf | rfl
theorem seekN_rf {k : Int} : ∀ {n : Nat} {d : DrS} {l : Int}, (seekN k n d l).1.rf = d.rf
  | 0, d, l => rfl
  | n + 1, d, l => by
    unfold seekN
    split
    · split
      · rw [dPlace_rf, dStep_rf]
      · split
        · rw [dRead_rf, dPlace_rf, dStep_rf]
        · rw [seekN_rf, dRead_rf, dPlace_rf, dStep_rf]
    · exact dStep_rf
theorem tSeek_rf {d : DrS} {t : TbS} {k : Int} : (tSeek d t k).1.rf = d.rf := seekN_rf
theorem tOpen_rf {d : DrS} {r : Int} : (tOpen d r).1.rf = d.rf := by
  unfold tOpen
  split
  · exact dPlace_rf
  · simp only
    rw [dPlace_rf]
    split
    · rw [dFail_rf, dRead_rf, dRead_rf, dPlace_rf]
    · rw [dRead_rf, dRead_rf, dPlace_rf]
theorem tMade_rf {d : DrS} {r : Int} : (tMade d r).1.rf = d.rf := by
  unfold tMade
  simp only [dPoint_rf, dAlloc_rf]
theorem inN_rf {σ : Type} {f : σ → DrS → Int → σ × DrS} (hf : ∀ s d a, (f s d a).2.rf = d.rf) : ∀ {n : Nat} {s : σ} {d : DrS} {a : Int}, (inN f n s d a).2.rf = d.rf
  | 0, s, d, a => rfl
  | n + 1, s, d, a => by
    unfold inN
    split
    · rfl
    · split
      · rw [inN_rf hf, hf, dPlace_rf, dStep_rf]
      · exact dStep_rf
theorem eachN_rf {σ : Type} {f : σ → DrS → Int → σ × DrS} (hf : ∀ s d a, (f s d a).2.rf = d.rf) {t : TbS} : ∀ {n i : Nat} {s : σ} {d : DrS}, (eachN f t n i s d).2.rf = d.rf
  | 0, i, s, d => rfl
  | n + 1, i, s, d => by
    unfold eachN
    simp only
    rw [eachN_rf hf, inN_rf hf, dPlace_rf]
theorem tEach_rf {σ : Type} {f : σ → DrS → Int → σ × DrS} (hf : ∀ s d a, (f s d a).2.rf = d.rf) {t : TbS} {s : σ} {d : DrS} : (tEach f t s d).2.rf = d.rf := eachN_rf hf

theorem inN_inv {σ : Type} {f : σ → DrS → Int → σ × DrS} {P : σ → Prop} (hf : ∀ s d a, P s → P (f s d a).1) : ∀ {n : Nat} {s : σ} {d : DrS} {a : Int}, P s → P (inN f n s d a).1
  | 0, s, d, a, h => h
  | n + 1, s, d, a, h => by
    unfold inN
    split
    · exact h
    · split
      · exact inN_inv hf (hf _ _ _ h)
      · exact h
theorem eachN_inv {σ : Type} {f : σ → DrS → Int → σ × DrS} {P : σ → Prop} (hf : ∀ s d a, P s → P (f s d a).1) {t : TbS} : ∀ {n i : Nat} {s : σ} {d : DrS}, P s → P (eachN f t n i s d).1
  | 0, i, s, d, h => h
  | n + 1, i, s, d, h => by
    unfold eachN
    simp only
    exact eachN_inv hf (inN_inv hf h)

/-! ### steps behind a walk -/
theorem seekN_steps {k : Int} {m : Nat} (hm : m ≤ 1000000) : ∀ {n : Nat} {d : DrS} {l : Int}, StOk d m → d.steps ≤ (seekN k n d l).1.steps ∧ StOk (seekN k n d l).1 (m + 1)
  | 0, d, l, h => ⟨Int.le_refl _, by unfold StOk at *; show 0 ≤ d.steps ∧ d.steps ≤ _; omega⟩
  | n + 1, d, l, h => by
    have h1 := dStep_steps h hm
    unfold seekN
    split
    · rename_i he
      have hok := dStep_ok h hm he
      have e2 : ∀ d2 : DrS, d2.steps = (dStep d).steps → d.steps ≤ d2.steps ∧ StOk d2 (m + 1) := fun d2 e => by unfold StOk at *; rw [e, h1.1] at *; omega
      split
      · exact e2 _ dPlace_steps
      · split
        · exact e2 _ (by rw [dRead_steps, dPlace_steps])
        · have e3 : (dRead (dPlace (dStep d) l).1 (w64 ((dPlace (dStep d) l).2 + 0))).1.steps = (dStep d).steps := by rw [dRead_steps, dPlace_steps]
          have := seekN_steps (k := k) hm (n := n) (l := w64 ((dPlace (dStep d) l).2 + 2)) (hok.eq e3)
          rw [e3, h1.1] at this
          exact ⟨by omega, this.2⟩
    · unfold StOk at *
      show d.steps ≤ (dStep d).steps ∧ 0 ≤ (dStep d).steps ∧ (dStep d).steps ≤ _
      rw [h1.1]; omega
theorem tSeek_ok {d : DrS} {t : TbS} {k : Int} {m : Nat} (h : StOk d m) (hm : m ≤ 1000000) : StOk (tSeek d t k).1 (m + 1) := (seekN_steps hm h).2
theorem inN_ok {σ : Type} {f : σ → DrS → Int → σ × DrS} (hf : ∀ s d a, (f s d a).2.steps = d.steps) {m : Nat} (hm : m ≤ 1000000) : ∀ {n : Nat} {s : σ} {d : DrS} {a : Int}, StOk d m → StOk (inN f n s d a).2 (m + 1)
  | 0, s, d, a, h => by unfold StOk at *; show 0 ≤ d.steps ∧ d.steps ≤ _; omega
  | n + 1, s, d, a, h => by
    have h1 := dStep_steps h hm
    unfold inN
    split
    · unfold StOk at *; show 0 ≤ d.steps ∧ d.steps ≤ _; omega
    · split
      · rename_i he
        exact inN_ok hf hm ((dStep_ok h hm he).eq (by rw [hf, dPlace_steps]))
      · unfold StOk at *; show 0 ≤ (dStep d).steps ∧ (dStep d).steps ≤ _; rw [h1.1]; omega
theorem eachN_ok {σ : Type} {f : σ → DrS → Int → σ × DrS} (hf : ∀ s d a, (f s d a).2.steps = d.steps) {t : TbS} : ∀ {n i m : Nat} {s : σ} {d : DrS}, m + n ≤ 1000000 → StOk d m → StOk (eachN f t n i s d).2 (m + n)
  | 0, i, m, s, d, hm, h => h
  | n + 1, i, m, s, d, hm, h => by
    unfold eachN
    simp only
    have := eachN_ok hf (t := t) (n := n) (i := i + 1) (m := m + 1) (s := (inN f (fuel (dPlace d (w64 (t.chains + (i : Int)))).1) s (dPlace d (w64 (t.chains + (i : Int)))).1 (dPlace d (w64 (t.chains + (i : Int)))).2).1) (d := (inN f (fuel (dPlace d (w64 (t.chains + (i : Int)))).1) s (dPlace d (w64 (t.chains + (i : Int)))).1 (dPlace d (w64 (t.chains + (i : Int)))).2).2) (by omega) (inN_ok hf (by omega) (h.eq dPlace_steps))
    rwa [show m + 1 + n = m + (n + 1) by omega] at this

/-! ### grow -/
def growF (w : Int) (first : List Int) (d : DrS) (a : Int) : List Int × DrS :=
  (first.set (tChain (dRead d (w64 (a + 0))).2 w).toNat a, dPoint (dRead d (w64 (a + 0))).1 (w64 (a + 2)) (first.getD (tChain (dRead d (w64 (a + 0))).2 w).toNat 0))
/-- the first k of a row are pointed at, from a place on -/
def pts (to : Int) (first : List Int) : Nat → DrS → DrS
  | 0, d => d
  | k + 1, d => dPoint (pts to first k d) (w64 (to + (k : Int))) (first.getD k 0)
def tGrow (d : DrS) (t : TbS) : DrS × TbS :=
  let w := w64 (2 * t.wide)
  let a := dAlloc d w
  let q := tEach (growF w) t (List.replicate w.toNat 0) a.1
  let d3 := dFree (pts a.2 q.1 w.toNat q.2) t.chains
  (dPoint (dPoint d3 (w64 (t.head + 1)) w) (w64 (t.head + 2)) a.2, ⟨t.head, w, a.2, t.keys⟩)
theorem growF_steps {w : Int} {s : List Int} {d : DrS} {a : Int} : (growF w s d a).2.steps = d.steps := by unfold growF; simp only; rw [dPoint_steps, dRead_steps]
theorem growF_rf {w : Int} {s : List Int} {d : DrS} {a : Int} : (growF w s d a).2.rf = d.rf := by unfold growF; simp only; rw [dPoint_rf, dRead_rf]
theorem pts_rf {to : Int} {first : List Int} {d : DrS} : ∀ {k : Nat}, (pts to first k d).rf = d.rf
  | 0 => rfl
  | k + 1 => by unfold pts; rw [dPoint_rf, pts_rf]
theorem pts_steps {to : Int} {first : List Int} {d : DrS} : ∀ {k : Nat}, (pts to first k d).steps = d.steps
  | 0 => rfl
  | k + 1 => by unfold pts; rw [dPoint_steps, pts_steps]
theorem growF_len {w : Int} {s : List Int} {d : DrS} {a : Int} : (growF w s d a).1.length = s.length := by unfold growF; simp

section
variable {w0 : Base} {L M : List Asn} {K : KV} {F : World → Prop} {C : Asn → List Asn} {b tp x1 x7 x11 : Nat} {d : DrS} {t : TbS} {n a x e w : Int}

theorem s_grow_1 {first : List Int} (hw : 1 ≤ w ∧ w ≤ 1000) (hl : (first.length : Int) = w) (hK : G w0 (ob (BoxR intE) x11 (growF w first d a).1 :: ob DraftR b (growF w first d a).2 :: own tp (t.cells b) :: own x1 [ptr tp 0] :: own x7 [i64 w] :: M) (K (.tuple #[]))) :
    G w0 (ob (BoxR intE) x11 first :: ob DraftR b d :: own tp (t.cells b) :: own x1 [ptr tp 0] :: own x7 [i64 w] :: M) (CP Tryz.prog Fn.table_table_grow_1 [i64 a, ptr x1 0, ptr x7 0, ptr x11 0] K) := by
  refine C_table_table_grow_1 ?_
  unfold S_table_table_grow_1
  unfold growF at hK
  refine G.drew ?_
  try simp (maxSteps := 2000000) only [↓RG, RB, BEq.rfl, Int.reduceEq, Int.reduceLT, Int.reduceLE, Nat.reduceEqDiff]
  refine s_draft_Read (d := d) ?_
  generalize dRead d (w64 (a + 0)) = r at hK ⊢
  obtain ⟨d1, k⟩ := r
  simp only at hK ⊢
  try simp (maxSteps := 2000000) only [↓RG, RB, BEq.rfl, Int.reduceEq, Int.reduceLT, Int.reduceLE, Nat.reduceEqDiff]
  refine s_table_chain ?_
  have hb := tChain_lt (k := k) hw.1 hw.2
  obtain ⟨j, ej, hj⟩ : ∃ j : Nat, tChain k w = (j : Int) ∧ j < first.length := ⟨(tChain k w).toNat, by omega, by omega⟩
  rw [ej] at hK ⊢
  simp only [Int.toNat_natCast] at hK
  have e := elem_of hj
  have hg : first.getD j 0 = first[j] := by rw [List.getD_eq_getElem?_getD, e.eq]; rfl
  rw [hg] at hK
  try simp (maxSteps := 2000000) only [↓RG, RB, BEq.rfl, Int.reduceEq, Int.reduceLT, Int.reduceLE, Nat.reduceEqDiff]
  refine G.drew ?_
  rw [BoxR_open]
  intro v hv
  try simp (maxSteps := 2000000) only [↓RG, RB, BEq.rfl, Int.reduceEq, Int.reduceLT, Int.reduceLE, Nat.reduceEqDiff]
  refine s_draft_Point (d := d1) ?_
  try simp (maxSteps := 2000000) only [↓RG, RB, BEq.rfl, Int.reduceEq, Int.reduceLT, Int.reduceLE, Nat.reduceEqDiff]
  rw [BoxR_open] at hK
  exact hK v hv

theorem s_table_grow {m wn : Nat} (hs : StOk d m) (hm : m ≤ 900) (hwd : t.wide = 2 ∨ t.wide = 4 ∨ t.wide = 8) (hf : d.rf.length ≤ 1000) [PickAll [own tp (t.cells b), ob DraftR b d] L M] (hK : G w0 (own tp ((tGrow d t).2.cells b) :: ob DraftR b (tGrow d t).1 :: M) (K (.tuple #[]))) : G w0 L (CP Tryz.prog Fn.table_table_grow [ptr tp 0] K) := by
  refine G.pickAll (As := [own tp (t.cells b), ob DraftR b d]) ?_
  show G w0 (own tp (t.cells b) :: ob DraftR b d :: M) _
  refine C_table_table_grow ?_
  unfold S_table_table_grow
  unfold tGrow at hK
  obtain ⟨wn, ew, hwn, hwn2⟩ : ∃ wn : Nat, w64 (2 * t.wide) = (wn : Int) ∧ 1 ≤ wn ∧ wn ≤ 16 := by
    rcases hwd with h | h | h <;> rw [h] <;> exact ⟨_, rfl, by decide, by decide⟩
  rw [ew] at hK
  simp only [Int.toNat_natCast] at hK
  refine G.box fun x1 => ?_
  try simp (maxSteps := 2000000) only [↓RG, RB, BEq.rfl, Int.reduceEq, Int.reduceLT, Int.reduceLE, Nat.reduceEqDiff, ew]
  refine G.new fun x7 => ?_
  try simp (maxSteps := 2000000) only [↓RG, RB, BEq.rfl, Int.reduceEq, Int.reduceLT, Int.reduceLE, Nat.reduceEqDiff]
  refine G.make intE 0 rfl (by simp only [maxLen]; omega) (by omega) fun v hv => ?_
  refine G.new fun x11 => ?_
  try simp (maxSteps := 2000000) only [↓RG, RB, BEq.rfl, Int.reduceEq, Int.reduceLT, Int.reduceLE, Nat.reduceEqDiff]
  refine G.drew ?_
  try simp (maxSteps := 2000000) only [↓RG, RB, BEq.rfl, Int.reduceEq, Int.reduceLT, Int.reduceLE, Nat.reduceEqDiff]
  refine s_draft_Alloc (d := d) ?_
  have hst := dAlloc_steps (d := d) (a := (wn : Int))
  have hrf := dAlloc_rf (d := d) (a := (wn : Int))
  generalize dAlloc d (wn : Int) = p at hK hst hrf ⊢
  obtain ⟨d1, to⟩ := p
  simp only at hK hst hrf ⊢
  try simp (maxSteps := 2000000) only [↓RG, RB, BEq.rfl, Int.reduceEq, Int.reduceLT, Int.reduceLE, Nat.reduceEqDiff]
  refine G.pickAll (As := [own x11 [v], sl intE v (List.replicate wn 0), ob DraftR b d1, own tp (t.cells b), own x1 [ptr tp 0], own x7 [i64 wn]]) ?_
  have hb : ∀ F, G w0 (ob (BoxR intE) x11 (List.replicate wn 0) :: ob DraftR b d1 :: own tp (t.cells b) :: own x1 [ptr tp 0] :: own x7 [i64 wn] :: M) F → G w0 (own x11 [v] :: sl intE v (List.replicate wn 0) :: ob DraftR b d1 :: own tp (t.cells b) :: own x1 [ptr tp 0] :: own x7 [i64 wn] :: M) F := fun F h => by
    rw [BoxR_open] at h
    exact h v hv
  refine hb _ ?_
  refine s_table_each (b := b) (t := t) (d := d1) (s := List.replicate wn 0) (f := growF wn) (Pc := fun s => ob (BoxR intE) x11 s) (Good := fun s _ => s.length = wn) (m := m) (hs.eq hst) (by omega) (by omega) (by simp) (fun s k h => h) (fun s d a h => ⟨by rw [growF_len]; exact h, growF_steps⟩) (fun s d a K' h _ hK' => ?_) ?_
  · show G w0 _ (CP Tryz.prog Fn.table_table_grow_1 [i64 a, ptr x1 0, ptr x7 0, ptr x11 0] K')
    exact s_grow_1 ⟨by omega, by omega⟩ (by omega) hK'
  have hql : (tEach (growF wn) t (List.replicate wn 0) d1).1.length = wn := eachN_inv (f := growF wn) (P := fun s : List Int => s.length = wn) (fun s d a h => by rw [growF_len]; exact h) (by simp)
  have hqrf := tEach_rf (f := growF wn) (fun s d a => growF_rf) (t := t) (s := List.replicate wn 0) (d := d1)
  generalize tEach (growF wn) t (List.replicate wn 0) d1 = q at hK hql hqrf ⊢
  obtain ⟨first, d2⟩ := q
  simp only at hK hql hqrf ⊢
  rw [BoxR_open]
  intro v2 hv2
  try simp (maxSteps := 2000000) only [↓RG, RB, BEq.rfl, Int.reduceEq, Int.reduceLT, Int.reduceLE, Nat.reduceEqDiff]
  have hll : (first.length : Int) = (wn : Int) := by omega
  refine G.loop1 (σ := Nat) (fun k => i64 k) (fun k => own x11 [v2] :: sl intE v2 first :: ob DraftR b (pts to first k d2) :: own tp (t.cells b) :: own x1 [ptr tp 0] :: own x7 [i64 wn] :: M) (fun k => k ≤ wn) (fun k => wn - k) 0 rfl rfl (by omega) ?_
  intro k hk J hJ
  try simp (maxSteps := 2000000) only [↓RG, RB, BEq.rfl, Int.reduceEq, Int.reduceLT, Int.reduceLE, Nat.reduceEqDiff, hll]
  refine G.cond (fun h => ?_) (fun h => ?_)
  · have hk2 : k < wn := by simpa using h
    have hk3 : k < first.length := by omega
    have e := elem_of hk3
    have hg : first.getD k 0 = first[k] := by rw [List.getD_eq_getElem?_getD, e.eq]; rfl
    try simp (maxSteps := 2000000) only [↓RG, RB, BEq.rfl, Int.reduceEq, Int.reduceLT, Int.reduceLE, Nat.reduceEqDiff]
    refine s_draft_Point (d := pts to first k d2) ?_
    try simp (maxSteps := 2000000) only [↓RG, RB, BEq.rfl, Int.reduceEq, Int.reduceLT, Int.reduceLE, Nat.reduceEqDiff]
    rw [wsucc (by omega)]
    have hn := hJ (k + 1) hk2 (by omega)
    unfold pts at hn
    rw [hg] at hn
    exact hn
  · have hk2 : k = wn := by simp at h; omega
    subst hk2
    refine G.drew ?_
    try simp (maxSteps := 2000000) only [↓RG, RB, BEq.rfl, Int.reduceEq, Int.reduceLT, Int.reduceLE, Nat.reduceEqDiff]
    refine s_draft_Free (d := pts to first k d2) (by
      show (pts to first k d2).rf.length ≤ _
      rw [pts_rf, hqrf, hrf]; exact hf) ?_
    try simp (maxSteps := 2000000) only [↓RG, RB, BEq.rfl, Int.reduceEq, Int.reduceLT, Int.reduceLE, Nat.reduceEqDiff]
    refine G.drew ?_
    try simp (maxSteps := 2000000) only [↓RG, RB, BEq.rfl, Int.reduceEq, Int.reduceLT, Int.reduceLE, Nat.reduceEqDiff]
    refine G.drew ?_
    try simp (maxSteps := 2000000) only [↓RG, RB, BEq.rfl, Int.reduceEq, Int.reduceLT, Int.reduceLE, Nat.reduceEqDiff]
    refine s_draft_Point (d := dFree (pts to first k d2) t.chains) ?_
    try simp (maxSteps := 2000000) only [↓RG, RB, BEq.rfl, Int.reduceEq, Int.reduceLT, Int.reduceLE, Nat.reduceEqDiff]
    refine G.drew ?_
    try simp (maxSteps := 2000000) only [↓RG, RB, BEq.rfl, Int.reduceEq, Int.reduceLT, Int.reduceLE, Nat.reduceEqDiff]
    refine s_draft_Point (d := dPoint (dFree (pts to first k d2) t.chains) (w64 (t.head + 1)) k) ?_
    try simp (maxSteps := 2000000) only [↓RG, RB, BEq.rfl, Int.reduceEq, Int.reduceLT, Int.reduceLE, Nat.reduceEqDiff]
    exact hK.sub

end
end Go.Proofs.YtokbiojkpldfeaaGreat.S

/-
  CHAPTER 18: package table: Put, Get, Del, Len.
-/
namespace Go.Proofs.YtokbiojkpldfeaaGreat.S
open Go Go.Proofs
set_option linter.unusedVariables false
set_option linter.unusedSimpArgs false

/-- opened, or made -/
def tAt (d : DrS) (root : Int) : DrS × TbS := if (tOpen d root).1.err = 0 ∧ (tOpen d root).2.head = 0 then tMade (tOpen d root).1 root else tOpen d root
def putGrow (d : DrS) (t : TbS) (link k : Int) : DrS × TbS × Int :=
  if d.err = 0 ∧ wU t.wide ≤ t.keys ∧ t.wide < 16 then ((tSeek (tGrow d t).1 (tGrow d t).2 k).1, (tGrow d t).2, (tSeek (tGrow d t).1 (tGrow d t).2 k).2.1) else (d, t, link)
def putEnd (d : DrS) (t : TbS) (link k x : Int) : DrS :=
  dWrite (dPoint (dPoint (dWrite (dWrite (dAlloc d 3).1 (w64 ((dAlloc d 3).2 + 0)) k) (w64 ((dAlloc d 3).2 + 1)) x) (w64 ((dAlloc d 3).2 + 2)) 0) link (dAlloc d 3).2) (w64 (t.head + 0)) (wU (t.keys + 1))
def tPut1 (root k x : Int) (d : DrS) : DrS × Bool :=
  if (tAt d root).1.err = 0 then
    (if (tSeek (tAt d root).1 (tAt d root).2 k).2.2 = 0 then
      (putEnd (putGrow (tSeek (tAt d root).1 (tAt d root).2 k).1 (tAt d root).2 (tSeek (tAt d root).1 (tAt d root).2 k).2.1 k).1 (putGrow (tSeek (tAt d root).1 (tAt d root).2 k).1 (tAt d root).2 (tSeek (tAt d root).1 (tAt d root).2 k).2.1 k).2.1 (putGrow (tSeek (tAt d root).1 (tAt d root).2 k).1 (tAt d root).2 (tSeek (tAt d root).1 (tAt d root).2 k).2.1 k).2.2 k x, true)
     else (dWrite (tSeek (tAt d root).1 (tAt d root).2 k).1 (w64 ((tSeek (tAt d root).1 (tAt d root).2 k).2.2 + 1)) x, false))
  else ((tAt d root).1, false)
/-- the draft, the value, whether it is there -/
def tGet1 (root k : Int) (d : DrS) : DrS × Int × Bool :=
  if (tOpen d root).1.err = 0 ∧ (tOpen d root).2.head ≠ 0 then
    (if (tSeek (tOpen d root).1 (tOpen d root).2 k).2.2 = 0 then ((tSeek (tOpen d root).1 (tOpen d root).2 k).1, 0, false)
     else ((dRead (tSeek (tOpen d root).1 (tOpen d root).2 k).1 (w64 ((tSeek (tOpen d root).1 (tOpen d root).2 k).2.2 + 1))).1, (dRead (tSeek (tOpen d root).1 (tOpen d root).2 k).1 (w64 ((tSeek (tOpen d root).1 (tOpen d root).2 k).2.2 + 1))).2, true))
  else ((tOpen d root).1, 0, false)
/-- a node is taken out -/
def cutOut (d : DrS) (t : TbS) (link at_ : Int) : DrS := dFree (dWrite (dWrite (dRead d (w64 (at_ + 2))).1 link (dRead d (w64 (at_ + 2))).2) (w64 (t.head + 0)) (wU (t.keys - 1))) at_
def tDel1 (root k : Int) (d : DrS) : DrS × Bool :=
  if (tOpen d root).1.err = 0 ∧ (tOpen d root).2.head ≠ 0 then
    (if (tSeek (tOpen d root).1 (tOpen d root).2 k).2.2 = 0 then ((tSeek (tOpen d root).1 (tOpen d root).2 k).1, false)
     else (cutOut (tSeek (tOpen d root).1 (tOpen d root).2 k).1 (tOpen d root).2 (tSeek (tOpen d root).1 (tOpen d root).2 k).2.1 (tSeek (tOpen d root).1 (tOpen d root).2 k).2.2, true))
  else ((tOpen d root).1, false)
def tLen1 (root : Int) (d : DrS) : DrS × Int := ((tOpen d root).1, if (tOpen d root).2.head = 0 then 0 else w64 (tOpen d root).2.keys)

theorem good_wide {n : Int} (h : badWide n = false) : n = 2 ∨ n = 4 ∨ n = 8 ∨ n = 16 := by
  have key : ∀ m : Fin 17, badWide (m.1 : Int) = false → m.1 = 2 ∨ m.1 = 4 ∨ m.1 = 8 ∨ m.1 = 16 := by decide +kernel
  have h2 := h
  unfold badWide at h2
  simp only [Bool.or_eq_false_iff, decide_eq_false_iff_not] at h2
  have h3 := key ⟨n.toNat, by omega⟩ (by simp only; rw [show ((n.toNat : Nat) : Int) = n by omega]; exact h)
  simp only at h3
  omega
theorem tOpen_wide {d : DrS} {r : Int} (h : (tOpen d r).2.head ≠ 0) : (tOpen d r).2.wide = 2 ∨ (tOpen d r).2.wide = 4 ∨ (tOpen d r).2.wide = 8 ∨ (tOpen d r).2.wide = 16 := by
  unfold tOpen at h ⊢
  split at h
  · exact absurd rfl h
  · rename_i h0
    rw [if_neg h0]
    simp only
    split
    · exact .inl rfl
    · rename_i hb
      have := good_wide (by simpa only [Bool.not_eq_true] using hb)
      rcases this with e | e | e | e <;> rw [e] <;> decide
theorem tAt_wide {d : DrS} {r : Int} (h : (tAt d r).1.err = 0) : (tAt d r).2.wide = 2 ∨ (tAt d r).2.wide = 4 ∨ (tAt d r).2.wide = 8 ∨ (tAt d r).2.wide = 16 := by
  unfold tAt at h ⊢
  split
  · exact .inl rfl
  · rename_i h0
    rw [if_neg h0] at h
    exact tOpen_wide (fun e => h0 ⟨h, e⟩)
theorem tOpen_steps {d : DrS} {r : Int} : (tOpen d r).1.steps = d.steps := by
  unfold tOpen
  split
  · exact dPlace_steps
  · simp only
    rw [dPlace_steps]
    split
    · rw [dFail_steps, dRead_steps, dRead_steps, dPlace_steps]
    · rw [dRead_steps, dRead_steps, dPlace_steps]
theorem tMade_steps {d : DrS} {r : Int} : (tMade d r).1.steps = d.steps := by
  unfold tMade
  simp only [dPoint_steps, dAlloc_steps]
theorem tAt_steps {d : DrS} {r : Int} : (tAt d r).1.steps = d.steps := by unfold tAt; split <;> simp [tMade_steps, tOpen_steps]
theorem tAt_rf {d : DrS} {r : Int} : (tAt d r).1.rf = d.rf := by
  unfold tAt
  split
  · rw [tMade_rf, tOpen_rf]
  · exact tOpen_rf
theorem tGrow_ok {d : DrS} {t : TbS} {m : Nat} (h : StOk d m) (hm : m ≤ 900) (hw : t.wide ≤ 16) : StOk (tGrow d t).1 (m + 16) := by
  unfold tGrow
  simp only
  have h1 := eachN_ok (f := growF (w64 (2 * t.wide))) (fun s d a => growF_steps) (t := t) (n := t.wide.toNat) (i := 0) (m := m) (s := List.replicate (w64 (2 * t.wide)).toNat 0) (d := (dAlloc d (w64 (2 * t.wide))).1) (by omega) (h.eq dAlloc_steps)
  have h2 : StOk (tEach (growF (w64 (2 * t.wide))) t (List.replicate (w64 (2 * t.wide)).toNat 0) (dAlloc d (w64 (2 * t.wide))).1).2 (m + 16) := by
    unfold StOk at h1 ⊢
    show 0 ≤ (eachN _ _ _ _ _ _).2.steps ∧ (eachN _ _ _ _ _ _).2.steps ≤ _
    omega
  exact h2.eq (by rw [dPoint_steps, dPoint_steps, dFree_steps, pts_steps])

section
variable {w0 : Base} {L M : List Asn} {K : KV} {F : World → Prop} {C : Asn → List Asn} {b tp x1 x2 x3 x4 : Nat} {d : DrS} {t : TbS} {n a x e w k root : Int}

theorem s_Put_1 (hs : StOk d 0) (hf : d.rf.length ≤ 1000) (hK : G w0 (own x4 [.bool (tPut1 root k x d).2] :: ob DraftR b (tPut1 root k x d).1 :: own x1 [i64 root] :: own x2 [u64 k] :: own x3 [u64 x] :: M) (K (.tuple #[]))) :
    G w0 (own x4 [.bool false] :: ob DraftR b d :: own x1 [i64 root] :: own x2 [u64 k] :: own x3 [u64 x] :: M) (CP Tryz.prog Fn.table_Put_1 [ptr b 0, ptr x1 0, ptr x2 0, ptr x3 0, ptr x4 0] K) := by
  refine C_table_Put_1 ?_
  unfold S_table_Put_1
  try simp (maxSteps := 2000000) only [fuse_and, fuse_or, fuse_step, fuse_pair, fuse_in, andP_true]
  try simp (maxSteps := 2000000) only [↓RG, RP, RB, BEq.rfl, Int.reduceEq, Int.reduceLT, Int.reduceLE, Nat.reduceEqDiff]
  refine s_table_open (d := d) fun tp0 => ?_
  refine s_draft_OK (d := (tOpen d root).1) ?_
  refine G.all (decide ((tOpen d root).2.head = 0)) (fun _ K hK => by try simp (maxSteps := 2000000) only [↓RG, RP, RB, BEq.rfl, Int.reduceEq, Int.reduceLT, Int.reduceLE, Nat.reduceEqDiff]; exact hK) ?_
  refine G.join1 (σ := Nat) (fun tp => ptr tp 0) (fun tp => own tp ((tAt d root).2.cells b) :: own x4 [.bool false] :: ob DraftR b (tAt d root).1 :: own x1 [i64 root] :: own x2 [u64 k] :: own x3 [u64 x] :: M) (fun _ => True) (fun tp _ => ?_) (fun J hJ => ?_)
  · refine s_draft_OK (d := (tAt d root).1) ?_
    unfold tPut1 at hK
    have hst := tAt_steps (d := d) (r := root)
    have hrf := tAt_rf (d := d) (r := root)
    have hwd := tAt_wide (d := d) (r := root)
    generalize tAt d root = m at hK hst hrf hwd ⊢
    obtain ⟨d1, t⟩ := m
    simp only at hK hst hrf hwd ⊢
    by_cases h1 : d1.err = 0
    · rw [if_pos h1] at hK
      have hwd := hwd h1
      try simp (maxSteps := 2000000) only [↓RG, RP, RB, BEq.rfl, Int.reduceEq, Int.reduceLT, Int.reduceLE, Nat.reduceEqDiff, eq_true h1]
      refine s_table_seek (b := b) (d := d1) (t := t) (m := 0) (hs.eq hst) (by omega) ?_
      have hsk := tSeek_ok (t := t) (k := k) (hs.eq hst) (by omega)
      have hrf2 := tSeek_rf (d := d1) (t := t) (k := k)
      generalize tSeek d1 t k = s at hK hsk hrf2 ⊢
      obtain ⟨d2, link, at_⟩ := s
      simp only at hK hsk hrf2 ⊢
      by_cases h2 : at_ = 0
      · rw [if_pos h2] at hK
        subst h2
        try simp (maxSteps := 2000000) only [↓RG, RP, RB, BEq.rfl, Int.reduceEq, Int.reduceLT, Int.reduceLE, Nat.reduceEqDiff]
        refine G.drew ?_
        refine s_draft_OK (d := d2) ?_
        refine G.all (decide (wU t.wide ≤ t.keys)) (fun _ K hK => by try simp (maxSteps := 2000000) only [↓RG, RP, RB, BEq.rfl, Int.reduceEq, Int.reduceLT, Int.reduceLE, Nat.reduceEqDiff]; exact hK) ?_
        refine G.all (decide (t.wide < 16)) (fun _ K hK => by try simp (maxSteps := 2000000) only [↓RG, RP, RB, BEq.rfl, Int.reduceEq, Int.reduceLT, Int.reduceLE, Nat.reduceEqDiff]; exact hK) ?_
        refine G.join1 (σ := Int) (fun l => i64 l) (fun l => own tp ((putGrow d2 t link k).2.1.cells b) :: own x4 [.bool false] :: ob DraftR b (putGrow d2 t link k).1 :: own x1 [i64 root] :: own x2 [u64 k] :: own x3 [u64 x] :: M) (fun l => l = (putGrow d2 t link k).2.2) (fun l hl => ?_) (fun J2 hJ2 => ?_)
        · subst hl
          unfold putEnd at hK
          generalize putGrow d2 t link k = g at hK ⊢
          obtain ⟨d3, t3, link3⟩ := g
          simp only at hK ⊢
          refine s_draft_Alloc (d := d3) ?_
          generalize dAlloc d3 3 = p at hK ⊢
          obtain ⟨d4, n⟩ := p
          simp only at hK ⊢
          try simp (maxSteps := 2000000) only [↓RG, RP, RB, BEq.rfl, Int.reduceEq, Int.reduceLT, Int.reduceLE, Nat.reduceEqDiff]
          refine s_draft_Write (d := d4) ?_
          try simp (maxSteps := 2000000) only [↓RG, RP, RB, BEq.rfl, Int.reduceEq, Int.reduceLT, Int.reduceLE, Nat.reduceEqDiff]
          refine s_draft_Write (d := dWrite d4 (w64 (n + 0)) k) ?_
          try simp (maxSteps := 2000000) only [↓RG, RP, RB, BEq.rfl, Int.reduceEq, Int.reduceLT, Int.reduceLE, Nat.reduceEqDiff]
          refine s_draft_Point (d := dWrite (dWrite d4 (w64 (n + 0)) k) (w64 (n + 1)) x) ?_
          refine s_draft_Point (d := dPoint (dWrite (dWrite d4 (w64 (n + 0)) k) (w64 (n + 1)) x) (w64 (n + 2)) 0) ?_
          refine G.drew ?_
          try simp (maxSteps := 2000000) only [↓RG, RP, RB, BEq.rfl, Int.reduceEq, Int.reduceLT, Int.reduceLE, Nat.reduceEqDiff]
          refine s_draft_Write (d := dPoint (dPoint (dWrite (dWrite d4 (w64 (n + 0)) k) (w64 (n + 1)) x) (w64 (n + 2)) 0) link3 n) ?_
          try simp (maxSteps := 2000000) only [↓RG, RP, RB, BEq.rfl, Int.reduceEq, Int.reduceLT, Int.reduceLE, Nat.reduceEqDiff]
          exact hK.sub
        · refine G.cond (fun h => ?_) (fun h => ?_)
          · have h3 : d2.err = 0 ∧ wU t.wide ≤ t.keys ∧ t.wide < 16 := by
              simp only [Bool.and_eq_true, decide_eq_true_eq] at h
              exact ⟨h.1.1, h.1.2, h.2⟩
            have e : putGrow d2 t link k = ((tSeek (tGrow d2 t).1 (tGrow d2 t).2 k).1, (tGrow d2 t).2, (tSeek (tGrow d2 t).1 (tGrow d2 t).2 k).2.1) := by unfold putGrow; rw [if_pos h3]
            have hj := hJ2 _ rfl
            rw [e] at hj
            have hwd2 : t.wide = 2 ∨ t.wide = 4 ∨ t.wide = 8 := by omega
            refine s_table_grow (b := b) (d := d2) (t := t) (m := 1) (wn := 0) hsk (by omega) hwd2 (by rw [hrf2, hrf]; exact hf) ?_
            try simp (maxSteps := 2000000) only [↓RG, RP, RB, BEq.rfl, Int.reduceEq, Int.reduceLT, Int.reduceLE, Nat.reduceEqDiff]
            refine s_table_seek (b := b) (d := (tGrow d2 t).1) (t := (tGrow d2 t).2) (m := 17) (tGrow_ok hsk (by omega) (by omega)) (by omega) ?_
            try simp (maxSteps := 2000000) only [↓RG, RP, RB, BEq.rfl, Int.reduceEq, Int.reduceLT, Int.reduceLE, Nat.reduceEqDiff]
            exact hj.sub
          · have h3 : ¬ (d2.err = 0 ∧ wU t.wide ≤ t.keys ∧ t.wide < 16) := by
              intro h4
              simp [h4.1, h4.2.1, h4.2.2] at h
            have e : putGrow d2 t link k = (d2, t, link) := by unfold putGrow; rw [if_neg h3]
            have hj := hJ2 _ rfl
            rw [e] at hj
            exact hj.sub
      · rw [if_neg h2] at hK
        try simp (maxSteps := 2000000) only [↓RG, RP, RB, BEq.rfl, Int.reduceEq, Int.reduceLT, Int.reduceLE, Nat.reduceEqDiff, h2]
        refine s_draft_Write (d := d2) ?_
        exact hK.sub
    · rw [if_neg h1] at hK
      try simp (maxSteps := 2000000) only [↓RG, RP, RB, BEq.rfl, Int.reduceEq, Int.reduceLT, Int.reduceLE, Nat.reduceEqDiff, h1]
      exact hK.sub
  · refine G.cond (fun h => ?_) (fun h => ?_)
    · have h1 : (tOpen d root).1.err = 0 ∧ (tOpen d root).2.head = 0 := by simpa using h
      have e : tAt d root = tMade (tOpen d root).1 root := by unfold tAt; rw [if_pos h1]
      try simp (maxSteps := 2000000) only [↓RG, RP, RB, BEq.rfl, Int.reduceEq, Int.reduceLT, Int.reduceLE, Nat.reduceEqDiff]
      refine s_table_made (d := (tOpen d root).1) fun tp => ?_
      rw [← e]
      exact (hJ tp trivial).sub
    · have h1 : ¬ ((tOpen d root).1.err = 0 ∧ (tOpen d root).2.head = 0) := by
        intro h2
        simp [h2.1, h2.2] at h
      have e : tAt d root = tOpen d root := by unfold tAt; rw [if_neg h1]
      rw [← e]
      exact (hJ tp0 trivial).sub

theorem s_Get_1 (hs : StOk d 0) (hK : G w0 (own x3 [u64 (tGet1 root k d).2.1] :: own x4 [.bool (tGet1 root k d).2.2] :: ob DraftR b (tGet1 root k d).1 :: own x1 [i64 root] :: own x2 [u64 k] :: M) (K (.tuple #[]))) :
    G w0 (own x3 [u64 0] :: own x4 [.bool false] :: ob DraftR b d :: own x1 [i64 root] :: own x2 [u64 k] :: M) (CP Tryz.prog Fn.table_Get_1 [ptr b 0, ptr x1 0, ptr x2 0, ptr x3 0, ptr x4 0] K) := by
  refine C_table_Get_1 ?_
  unfold S_table_Get_1
  unfold tGet1 at hK
  try simp (maxSteps := 2000000) only [fuse_and, fuse_or, fuse_step, fuse_pair, fuse_in, andP_true]
  try simp (maxSteps := 2000000) only [↓RG, RP, RB, BEq.rfl, Int.reduceEq, Int.reduceLT, Int.reduceLE, Nat.reduceEqDiff]
  refine s_table_open (d := d) fun tp => ?_
  have hst := tOpen_steps (d := d) (r := root)
  generalize tOpen d root = m at hK hst ⊢
  obtain ⟨d1, t⟩ := m
  simp only at hK hst ⊢
  refine s_draft_OK (d := d1) ?_
  by_cases h1 : d1.err = 0
  · by_cases h2 : t.head = 0
    · rw [if_neg (fun h => h.2 h2)] at hK
      try simp (maxSteps := 2000000) only [↓RG, RP, RB, BEq.rfl, Int.reduceEq, Int.reduceLT, Int.reduceLE, Nat.reduceEqDiff, eq_true h1, eq_true h2]
      exact hK.sub
    · rw [if_pos ⟨h1, h2⟩] at hK
      try simp (maxSteps := 2000000) only [↓RG, RP, RB, BEq.rfl, Int.reduceEq, Int.reduceLT, Int.reduceLE, Nat.reduceEqDiff, eq_true h1, h2]
      refine s_table_seek (b := b) (d := d1) (t := t) (m := 0) (hs.eq hst) (by omega) ?_
      generalize tSeek d1 t k = s at hK ⊢
      obtain ⟨d2, link, at_⟩ := s
      simp only at hK ⊢
      by_cases h3 : at_ = 0
      · rw [if_pos h3] at hK
        subst h3
        repeat' (first | (with_reducible refine G.joini0 ?_) | (with_reducible refine G.joini1 ?_) | (with_reducible refine G.drew ?_) | (simp (maxSteps := 2000000) only [↓RG, RP, RB, BEq.rfl, Int.reduceEq, Int.reduceLT, Int.reduceLE, Nat.reduceEqDiff]))
        exact hK.sub
      · rw [if_neg h3] at hK
        repeat' (first | (with_reducible refine G.joini0 ?_) | (with_reducible refine G.joini1 ?_) | (with_reducible refine G.drew ?_) | (simp (maxSteps := 2000000) only [↓RG, RP, RB, BEq.rfl, Int.reduceEq, Int.reduceLT, Int.reduceLE, Nat.reduceEqDiff, h3]))
        refine s_draft_Read (d := d2) ?_
        repeat' (first | (with_reducible refine G.joini0 ?_) | (with_reducible refine G.joini1 ?_) | (with_reducible refine G.drew ?_) | (simp (maxSteps := 2000000) only [↓RG, RP, RB, BEq.rfl, Int.reduceEq, Int.reduceLT, Int.reduceLE, Nat.reduceEqDiff]))
        exact hK.sub
  · rw [if_neg (fun h => h1 h.1)] at hK
    try simp (maxSteps := 2000000) only [↓RG, RP, RB, BEq.rfl, Int.reduceEq, Int.reduceLT, Int.reduceLE, Nat.reduceEqDiff, h1]
    exact hK.sub

theorem s_Del_1 (hs : StOk d 0) (hf : d.rf.length ≤ 1000) (hK : G w0 (own x3 [.bool (tDel1 root k d).2] :: ob DraftR b (tDel1 root k d).1 :: own x1 [i64 root] :: own x2 [u64 k] :: M) (K (.tuple #[]))) :
    G w0 (own x3 [.bool false] :: ob DraftR b d :: own x1 [i64 root] :: own x2 [u64 k] :: M) (CP Tryz.prog Fn.table_Del_1 [ptr b 0, ptr x1 0, ptr x2 0, ptr x3 0] K) := by
  refine C_table_Del_1 ?_
  unfold S_table_Del_1
  unfold tDel1 at hK
  try simp (maxSteps := 2000000) only [fuse_and, fuse_or, fuse_step, fuse_pair, fuse_in, andP_true]
  try simp (maxSteps := 2000000) only [↓RG, RP, RB, BEq.rfl, Int.reduceEq, Int.reduceLT, Int.reduceLE, Nat.reduceEqDiff]
  refine s_table_open (d := d) fun tp => ?_
  have hst := tOpen_steps (d := d) (r := root)
  have hrf := tOpen_rf (d := d) (r := root)
  generalize tOpen d root = m at hK hst hrf ⊢
  obtain ⟨d1, t⟩ := m
  simp only at hK hst hrf ⊢
  refine s_draft_OK (d := d1) ?_
  by_cases h1 : d1.err = 0
  · by_cases h2 : t.head = 0
    · rw [if_neg (fun h => h.2 h2)] at hK
      try simp (maxSteps := 2000000) only [↓RG, RP, RB, BEq.rfl, Int.reduceEq, Int.reduceLT, Int.reduceLE, Nat.reduceEqDiff, eq_true h1, eq_true h2]
      exact hK.sub
    · rw [if_pos ⟨h1, h2⟩] at hK
      try simp (maxSteps := 2000000) only [↓RG, RP, RB, BEq.rfl, Int.reduceEq, Int.reduceLT, Int.reduceLE, Nat.reduceEqDiff, eq_true h1, h2]
      refine s_table_seek (b := b) (d := d1) (t := t) (m := 0) (hs.eq hst) (by omega) ?_
      have hrf2 := tSeek_rf (d := d1) (t := t) (k := k)
      generalize tSeek d1 t k = s at hK hrf2 ⊢
      obtain ⟨d2, link, at_⟩ := s
      simp only at hK hrf2 ⊢
      by_cases h3 : at_ = 0
      · rw [if_pos h3] at hK
        subst h3
        repeat' (first | (with_reducible refine G.joini0 ?_) | (with_reducible refine G.joini1 ?_) | (with_reducible refine G.drew ?_) | (simp (maxSteps := 2000000) only [↓RG, RP, RB, BEq.rfl, Int.reduceEq, Int.reduceLT, Int.reduceLE, Nat.reduceEqDiff]))
        exact hK.sub
      · rw [if_neg h3] at hK
        unfold cutOut at hK
        repeat' (first | (with_reducible refine G.joini0 ?_) | (with_reducible refine G.joini1 ?_) | (with_reducible refine G.drew ?_) | (simp (maxSteps := 2000000) only [↓RG, RP, RB, BEq.rfl, Int.reduceEq, Int.reduceLT, Int.reduceLE, Nat.reduceEqDiff, h3]))
        refine s_draft_Read (d := d2) ?_
        have hrf3 := dRead_rf (d := d2) (a := w64 (at_ + 2))
        generalize dRead d2 (w64 (at_ + 2)) = r at hK hrf3 ⊢
        obtain ⟨d3, nx⟩ := r
        simp only at hK hrf3 ⊢
        refine s_draft_Write (d := d3) ?_
        repeat' (first | (with_reducible refine G.joini0 ?_) | (with_reducible refine G.joini1 ?_) | (with_reducible refine G.drew ?_) | (simp (maxSteps := 2000000) only [↓RG, RP, RB, BEq.rfl, Int.reduceEq, Int.reduceLT, Int.reduceLE, Nat.reduceEqDiff]))
        refine s_draft_Write (d := dWrite d3 link nx) ?_
        repeat' (first | (with_reducible refine G.joini0 ?_) | (with_reducible refine G.joini1 ?_) | (with_reducible refine G.drew ?_) | (simp (maxSteps := 2000000) only [↓RG, RP, RB, BEq.rfl, Int.reduceEq, Int.reduceLT, Int.reduceLE, Nat.reduceEqDiff]))
        refine s_draft_Free (d := dWrite (dWrite d3 link nx) (w64 (t.head + 0)) (wU (t.keys - 1))) (by
          show (dWrite (dWrite d3 link nx) (w64 (t.head + 0)) (wU (t.keys - 1))).rf.length ≤ _
          rw [dWrite_rf, dWrite_rf, hrf3, hrf2, hrf]; exact hf) ?_
        repeat' (first | (with_reducible refine G.joini0 ?_) | (with_reducible refine G.joini1 ?_) | (with_reducible refine G.drew ?_) | (simp (maxSteps := 2000000) only [↓RG, RP, RB, BEq.rfl, Int.reduceEq, Int.reduceLT, Int.reduceLE, Nat.reduceEqDiff]))
        exact hK.sub
  · rw [if_neg (fun h => h1 h.1)] at hK
    try simp (maxSteps := 2000000) only [↓RG, RP, RB, BEq.rfl, Int.reduceEq, Int.reduceLT, Int.reduceLE, Nat.reduceEqDiff, h1]
    exact hK.sub

theorem s_Len_1 (hK : G w0 (own x2 [i64 (tLen1 root d).2] :: ob DraftR b (tLen1 root d).1 :: own x1 [i64 root] :: M) (K (.tuple #[]))) :
    G w0 (own x2 [i64 0] :: ob DraftR b d :: own x1 [i64 root] :: M) (CP Tryz.prog Fn.table_Len_1 [ptr b 0, ptr x1 0, ptr x2 0] K) := by
  refine C_table_Len_1 ?_
  unfold S_table_Len_1
  unfold tLen1 at hK
  try simp (maxSteps := 2000000) only [↓RG, RP, RB, BEq.rfl, Int.reduceEq, Int.reduceLT, Int.reduceLE, Nat.reduceEqDiff]
  refine s_table_open (d := d) fun tp => ?_
  generalize tOpen d root = m at hK ⊢
  obtain ⟨d1, t⟩ := m
  simp only at hK ⊢
  by_cases h2 : t.head = 0
  · rw [if_pos h2] at hK
    repeat' (first | (with_reducible refine G.joini0 ?_) | (with_reducible refine G.joini1 ?_) | (with_reducible refine G.drew ?_) | (simp (maxSteps := 2000000) only [↓RG, RP, RB, BEq.rfl, Int.reduceEq, Int.reduceLT, Int.reduceLE, Nat.reduceEqDiff, eq_true h2]))
    exact hK.sub
  · rw [if_neg h2] at hK
    repeat' (first | (with_reducible refine G.joini0 ?_) | (with_reducible refine G.joini1 ?_) | (with_reducible refine G.drew ?_) | (simp (maxSteps := 2000000) only [↓RG, RP, RB, BEq.rfl, Int.reduceEq, Int.reduceLT, Int.reduceLE, Nat.reduceEqDiff, h2]))
    exact hK.sub

end
end Go.Proofs.YtokbiojkpldfeaaGreat.S

/-
  CHAPTER 18: package table: the calls.
-/
namespace Go.Proofs.YtokbiojkpldfeaaGreat.S
open Go Go.Proofs
set_option linter.unusedVariables false
set_option linter.unusedSimpArgs false

/-! ### the levels stay (turned from what is freed) -/
theorem lPuts_up : ∀ {l : List TCell} {s : LvS}, (lPuts s l).1.up = s.up
  | [], s => rfl
  | c :: l, s => by
    unfold lPuts
    split
    · rw [lPuts_up]; rfl
    · rfl
theorem vTake_up {s : VwS} {l : List TCell} : (vTake s l).1.l.up = s.l.up := by
  unfold vTake
  split
  · show (lTake s.l l).1.up = _
    unfold lTake
    split
    · exact lPuts_up
    · rfl
  · rfl
theorem vWrite_up {s : VwS} {a x : Int} : (vWrite s a x).1.l.up = s.l.up := by
  unfold vWrite
  split
  · show (lPut s.l a x).1.up = _
    unfold lPut
    split <;> rfl
  · rfl
theorem vRead_up {s : VwS} {a : Int} : (vRead s a).1.l.up = s.l.up := by rw [vRead_l]
theorem aAgain_up {s : VwS} {c b : Int} : (aAgain s c b).1.l.up = s.l.up := by
  unfold aAgain
  split
  · rfl
  · split
    · split <;> (simp only; rw [vTake_up, vRead_up])
    · exact vRead_up
theorem aGrown_up {s : VwS} {c : Int} : (aGrown s c).1.l.up = s.l.up := by
  unfold aGrown
  split
  · split
    · exact vRead_up
    · split <;> (simp only; rw [vTake_up, vRead_up])
  · exact vRead_up
theorem aAlloc_up {s : VwS} {n : Int} : (aAlloc s n).1.l.up = s.l.up := by
  unfold aAlloc
  split
  · rfl
  · split
    · split
      · rw [aGrown_up, vRead_up]
      · rw [aAgain_up, vRead_up]
    · exact vRead_up
abbrev DrS.up (d : DrS) : List Lv := d.v.l.up
theorem dFail_up {d : DrS} {e : Int} : (dFail d e).up = d.up := by unfold dFail; split <;> rfl
theorem dRead_up {d : DrS} {a : Int} : (dRead d a).1.up = d.up := by
  unfold dRead
  split
  · rw [dFail_up]; exact vRead_up
  · rfl
theorem dName_up {d : DrS} {a : Int} : (dName d a).1.up = d.up := by unfold dName; split <;> first | exact dFail_up | rfl
theorem dPlace_up {d : DrS} {a : Int} : (dPlace d a).1.up = d.up := by unfold dPlace; rw [dName_up, dRead_up]
theorem dWrite_up {d : DrS} {a x : Int} : (dWrite d a x).up = d.up := by
  unfold dWrite
  split
  · rw [dFail_up]; exact vWrite_up
  · rfl
theorem dPoint_up {d : DrS} {a x : Int} : (dPoint d a x).up = d.up := dWrite_up
theorem dAlloc_up {d : DrS} {a : Int} : (dAlloc d a).1.up = d.up := by
  unfold dAlloc
  split
  · rw [dFail_up]; exact aAlloc_up
  · rfl
theorem dStep_up {d : DrS} : (dStep d).up = d.up := by unfold dStep; split <;> first | exact dFail_up | rfl
theorem seekN_up {k : Int} : ∀ {n : Nat} {d : DrS} {l : Int}, (seekN k n d l).1.up = d.up
  | 0, d, l => rfl
  | n + 1, d, l => by
    unfold seekN
    split
    · split
      · rw [dPlace_up, dStep_up]
      · split
        · rw [dRead_up, dPlace_up, dStep_up]
        · rw [seekN_up, dRead_up, dPlace_up, dStep_up]
    · exact dStep_up
theorem tSeek_up {d : DrS} {t : TbS} {k : Int} : (tSeek d t k).1.up = d.up := seekN_up
theorem tOpen_up {d : DrS} {r : Int} : (tOpen d r).1.up = d.up := by
  unfold tOpen
  split
  · exact dPlace_up
  · simp only
    rw [dPlace_up]
    split
    · rw [dFail_up, dRead_up, dRead_up, dPlace_up]
    · rw [dRead_up, dRead_up, dPlace_up]
theorem tMade_up {d : DrS} {r : Int} : (tMade d r).1.up = d.up := by
  unfold tMade
  simp only [dPoint_up, dAlloc_up]
theorem inN_up {σ : Type} {f : σ → DrS → Int → σ × DrS} (hf : ∀ s d a, (f s d a).2.up = d.up) : ∀ {n : Nat} {s : σ} {d : DrS} {a : Int}, (inN f n s d a).2.up = d.up
  | 0, s, d, a => rfl
  | n + 1, s, d, a => by
    unfold inN
    split
    · rfl
    · split
      · rw [inN_up hf, hf, dPlace_up, dStep_up]
      · exact dStep_up
theorem eachN_up {σ : Type} {f : σ → DrS → Int → σ × DrS} (hf : ∀ s d a, (f s d a).2.up = d.up) {t : TbS} : ∀ {n i : Nat} {s : σ} {d : DrS}, (eachN f t n i s d).2.up = d.up
  | 0, i, s, d => rfl
  | n + 1, i, s, d => by
    unfold eachN
    simp only
    rw [eachN_up hf, inN_up hf, dPlace_up]
theorem tEach_up {σ : Type} {f : σ → DrS → Int → σ × DrS} (hf : ∀ s d a, (f s d a).2.up = d.up) {t : TbS} {s : σ} {d : DrS} : (tEach f t s d).2.up = d.up := eachN_up hf

theorem growF_up {w : Int} {s : List Int} {d : DrS} {a : Int} : (growF w s d a).2.up = d.up := by unfold growF; simp only; rw [dPoint_up, dRead_up]
theorem pts_up {to : Int} {first : List Int} {d : DrS} : ∀ {k : Nat}, (pts to first k d).up = d.up
  | 0 => rfl
  | k + 1 => by unfold pts; rw [dPoint_up, pts_up]
theorem tAt_up {d : DrS} {r : Int} : (tAt d r).1.up = d.up := by
  unfold tAt
  split
  · rw [tMade_up, tOpen_up]
  · exact tOpen_up

theorem aFree_up {s : VwS} {n : Int} : (aFree s n).1.l.up = s.l.up := by
  unfold aFree aFreeIn
  split
  · split
    · split
      · show (vTake (aAsked s n).1 _).1.l.up = _
        rw [vTake_up, aAsked_l]
      · rw [vTake_up, aAsked_l]
    · simp only; rw [aAsked_l]
  · simp only; rw [aAsked_l]
theorem aFree_rf {s : VwS} {n : Int} : (aFree s n).1.l.r.f.length ≤ s.l.r.f.length + 1 := by
  unfold aFree aFreeIn
  split
  · split
    · split
      · show ((vTake (aAsked s n).1 _).1.l.r.f ++ [n]).length ≤ _
        rw [vTake_rf, aAsked_l]; simp
      · rw [vTake_rf, aAsked_l]; omega
    · simp only; rw [aAsked_l]; omega
  · simp only; rw [aAsked_l]; omega
theorem dFree_up {d : DrS} {n : Int} : (dFree d n).up = d.up := by
  unfold dFree
  split
  · rw [dFail_up]; exact aFree_up
  · rfl
theorem dFree_rf {d : DrS} {n : Int} : (dFree d n).rf.length ≤ d.rf.length + 1 := by
  unfold dFree
  split
  · rw [dFail_rf]; exact aFree_rf
  · omega
theorem tGrow_up {d : DrS} {t : TbS} : (tGrow d t).1.up = d.up := by
  unfold tGrow
  simp only
  rw [dPoint_up, dPoint_up, dFree_up, pts_up, tEach_up (fun s d a => growF_up), dAlloc_up]
theorem tGrow_rf {d : DrS} {t : TbS} : (tGrow d t).1.rf.length ≤ d.rf.length + 1 := by
  unfold tGrow
  simp only
  rw [dPoint_rf, dPoint_rf]
  refine Nat.le_trans dFree_rf ?_
  rw [pts_rf, tEach_rf (fun s d a => growF_rf), dAlloc_rf]
  exact Nat.le_refl _
theorem putGrow_up {d : DrS} {t : TbS} {l k : Int} : (putGrow d t l k).1.up = d.up := by
  unfold putGrow
  split
  · simp only; rw [tSeek_up, tGrow_up]
  · rfl
theorem putGrow_rf {d : DrS} {t : TbS} {l k : Int} : (putGrow d t l k).1.rf.length ≤ d.rf.length + 1 := by
  unfold putGrow
  split
  · simp only; rw [tSeek_rf]; exact tGrow_rf
  · show d.rf.length ≤ _; omega
theorem putEnd_up {d : DrS} {t : TbS} {l k x : Int} : (putEnd d t l k x).up = d.up := by
  unfold putEnd
  rw [dWrite_up, dPoint_up, dPoint_up, dWrite_up, dWrite_up, dAlloc_up]
theorem putEnd_rf {d : DrS} {t : TbS} {l k x : Int} : (putEnd d t l k x).rf = d.rf := by
  unfold putEnd
  rw [dWrite_rf, dPoint_rf, dPoint_rf, dWrite_rf, dWrite_rf, dAlloc_rf]
theorem tPut1_up {root k x : Int} {d : DrS} : (tPut1 root k x d).1.up = d.up := by
  unfold tPut1
  split
  · split
    · simp only; rw [putEnd_up, putGrow_up, tSeek_up, tAt_up]
    · simp only; rw [dWrite_up, tSeek_up, tAt_up]
  · exact tAt_up
theorem tPut1_rf {root k x : Int} {d : DrS} : (tPut1 root k x d).1.rf.length ≤ d.rf.length + 1 := by
  unfold tPut1
  split
  · split
    · simp only; rw [putEnd_rf]
      refine Nat.le_trans putGrow_rf ?_
      rw [tSeek_rf, tAt_rf]; exact Nat.le_refl _
    · simp only; rw [dWrite_rf, tSeek_rf, tAt_rf]; omega
  · simp only; rw [tAt_rf]; omega
theorem tGet1_up {root k : Int} {d : DrS} : (tGet1 root k d).1.up = d.up := by
  unfold tGet1
  split
  · split
    · simp only; rw [tSeek_up, tOpen_up]
    · simp only; rw [dRead_up, tSeek_up, tOpen_up]
  · exact tOpen_up
theorem tGet1_rf {root k : Int} {d : DrS} : (tGet1 root k d).1.rf = d.rf := by
  unfold tGet1
  split
  · split
    · simp only; rw [tSeek_rf, tOpen_rf]
    · simp only; rw [dRead_rf, tSeek_rf, tOpen_rf]
  · exact tOpen_rf
theorem tDel1_up {root k : Int} {d : DrS} : (tDel1 root k d).1.up = d.up := by
  unfold tDel1
  split
  · split
    · simp only; rw [tSeek_up, tOpen_up]
    · unfold cutOut; simp only; rw [dFree_up, dWrite_up, dWrite_up, dRead_up, tSeek_up, tOpen_up]
  · exact tOpen_up
theorem tDel1_rf {root k : Int} {d : DrS} : (tDel1 root k d).1.rf.length ≤ d.rf.length + 1 := by
  unfold tDel1
  split
  · split
    · simp only; rw [tSeek_rf, tOpen_rf]; omega
    · unfold cutOut; simp only
      refine Nat.le_trans dFree_rf ?_
      rw [dWrite_rf, dWrite_rf, dRead_rf, tSeek_rf, tOpen_rf]; exact Nat.le_refl _
  · simp only; rw [tOpen_rf]; omega
theorem knowAll_l {l : List TCell} : ∀ {s : VwS}, (knowAll s l).l = s.l := by
  induction l with
  | nil => intro s; rfl
  | cons c l ih =>
    intro s
    show (knowAll (vKnow s c.place c.word).1 l).l = _
    rw [ih]
    unfold vKnow
    split
    · split <;> rfl
    · rfl
theorem dOf_l {s : VwS} : (dOf s).l = ⟨96, ⟨[], []⟩, []⟩ := by unfold dOf; rw [knowAll_l, knowAll_l]; rfl
theorem frees_one {s : LvS} (h : s.up = []) : s.frees = s.r.f := by unfold LvS.frees freesR; rw [h]; simp
/-- a draft's frees: few -/
theorem few_frees {d : DrS} (hu : d.up = []) {n : Nat} (hf : d.rf.length ≤ n) : d.v.l.frees.length ≤ n := by rw [frees_one hu]; exact hf

/-! ### the calls -/
abbrev dr0 (s : VwS) : DrS := ⟨dOf s, 0, 0⟩
def badRoot (root : Int) : Bool := decide (root < 6) || decide (14 ≤ root)
def tPut (s : VwS) (root k x : Int) : VwS × Bool × Int := if badRoot root = true then (s, false, 2) else ((dEnd s (tPut1 root k x (dr0 s)).1).1, (tPut1 root k x (dr0 s)).2 && decide ((dEnd s (tPut1 root k x (dr0 s)).1).2 = 0), (dEnd s (tPut1 root k x (dr0 s)).1).2)
def tGet (s : VwS) (root k : Int) : VwS × Int × Bool × Int := if badRoot root = true then (s, 0, false, 2) else
  if (dEnd s (tGet1 root k (dr0 s)).1).2 = 0 then ((dEnd s (tGet1 root k (dr0 s)).1).1, (tGet1 root k (dr0 s)).2.1, (tGet1 root k (dr0 s)).2.2, 0) else ((dEnd s (tGet1 root k (dr0 s)).1).1, 0, false, (dEnd s (tGet1 root k (dr0 s)).1).2)
def tDel (s : VwS) (root k : Int) : VwS × Bool × Int := if badRoot root = true then (s, false, 2) else ((dEnd s (tDel1 root k (dr0 s)).1).1, (tDel1 root k (dr0 s)).2 && decide ((dEnd s (tDel1 root k (dr0 s)).1).2 = 0), (dEnd s (tDel1 root k (dr0 s)).1).2)
def tLen (s : VwS) (root : Int) : VwS × Int × Int := if badRoot root = true then (s, 0, 2) else
  if (dEnd s (tLen1 root (dr0 s)).1).2 = 0 then ((dEnd s (tLen1 root (dr0 s)).1).1, (tLen1 root (dr0 s)).2, 0) else ((dEnd s (tLen1 root (dr0 s)).1).1, 0, (dEnd s (tLen1 root (dr0 s)).1).2)

theorem dr0_ok {s : VwS} : StOk (dr0 s) 0 := ⟨Int.le_refl _, by show (0 : Int) ≤ _; omega⟩
theorem dr0_up {s : VwS} : (dr0 s).up = [] := by show (dOf s).l.up = []; rw [dOf_l]
theorem dr0_rf {s : VwS} : (dr0 s).rf = [] := by show (dOf s).l.r.f = []; rw [dOf_l]
theorem badRoot_iff {root : Int} : badRoot root = true ↔ root < 6 ∨ 14 ≤ root := by simp [badRoot]

section
variable {w0 : Base} {L M : List Asn} {K : KV} {F : World → Prop} {C : Asn → List Asn} {b : Nat} {s : VwS} {n a x e w k root : Int}

theorem s_table_Put [i : SelOb L ViewR b s C] (hs : s.l.r.f.length ≤ 1000) (hK : G w0 (C (ob ViewR b (tPut s root k x).1)) (K (.tuple #[.bool (tPut s root k x).2.1, i64 (tPut s root k x).2.2]))) : G w0 L (CP Tryz.prog Fn.table_Put [ptr b 0, i64 root, u64 k, u64 x] K) := by
  refine i.use (fun M hK => ?_) hK
  refine C_table_Put ?_
  unfold S_table_Put
  try simp (maxSteps := 2000000) only [fuse_and, fuse_or, fuse_step, fuse_pair, fuse_in, andP_true]
  refine G.box fun x1 => ?_
  refine G.box fun x2 => ?_
  refine G.box fun x3 => ?_
  refine G.new fun x4 => ?_
  try simp (maxSteps := 2000000) only [↓RG, RP, RB, BEq.rfl, Int.reduceEq, Int.reduceLT, Int.reduceLE, Nat.reduceEqDiff]
  have hrf := tPut1_rf (root := root) (k := k) (x := x) (d := dr0 s)
  have hup := tPut1_up (root := root) (k := k) (x := x) (d := dr0 s)
  rw [dr0_rf] at hrf
  rw [dr0_up] at hup
  refine s_draft_Do (s := s) (f := fun d => (tPut1 root k x d).1) (M := own x4 [.bool (tPut1 root k x (dr0 s)).2] :: own x3 [u64 x] :: own x2 [u64 k] :: own x1 [i64 root] :: ob ViewR b s :: M) (few_frees hup (by simp at hrf; omega)) (by omega) (fun c K' hK' => ?_) (fun hb => ?_) (fun hb => ?_)
  · show G w0 _ (CP Tryz.prog Fn.table_Put_1 [ptr c 0, ptr x1 0, ptr x2 0, ptr x3 0, ptr x4 0] K')
    refine G.pickAll (As := [own x4 [.bool false], ob DraftR c (dr0 s), own x1 [i64 root], own x2 [u64 k], own x3 [u64 x]]) ?_
    refine s_Put_1 (M := ob ViewR b s :: M) dr0_ok (by rw [dr0_rf]; simp) ?_
    exact hK'.sub
  · have e : tPut s root k x = (s, false, 2) := by unfold tPut; rw [if_pos (badRoot_iff.2 hb)]
    rw [e] at hK
    try simp (maxSteps := 2000000) only [↓RG, RP, RB, BEq.rfl, Int.reduceEq, Int.reduceLT, Int.reduceLE, Nat.reduceEqDiff]
    exact hK.sub
  · have e : tPut s root k x = ((dEnd s (tPut1 root k x (dr0 s)).1).1, (tPut1 root k x (dr0 s)).2 && decide ((dEnd s (tPut1 root k x (dr0 s)).1).2 = 0), (dEnd s (tPut1 root k x (dr0 s)).1).2) := by unfold tPut; rw [if_neg (fun h => hb (badRoot_iff.1 h))]
    rw [e] at hK
    simp only at hK ⊢
    cases ht : (tPut1 root k x (dr0 s)).2
    · rw [ht] at hK
      try simp (maxSteps := 2000000) only [↓RG, RP, RB, BEq.rfl, Int.reduceEq, Int.reduceLT, Int.reduceLE, Nat.reduceEqDiff]
      exact hK.sub
    · rw [ht] at hK
      simp only [Bool.true_and] at hK
      try simp (maxSteps := 2000000) only [↓RG, RP, RB, BEq.rfl, Int.reduceEq, Int.reduceLT, Int.reduceLE, Nat.reduceEqDiff]
      exact hK.sub

theorem s_table_Del [i : SelOb L ViewR b s C] (hs : s.l.r.f.length ≤ 1000) (hK : G w0 (C (ob ViewR b (tDel s root k).1)) (K (.tuple #[.bool (tDel s root k).2.1, i64 (tDel s root k).2.2]))) : G w0 L (CP Tryz.prog Fn.table_Del [ptr b 0, i64 root, u64 k] K) := by
  refine i.use (fun M hK => ?_) hK
  refine C_table_Del ?_
  unfold S_table_Del
  try simp (maxSteps := 2000000) only [fuse_and, fuse_or, fuse_step, fuse_pair, fuse_in, andP_true]
  refine G.box fun x1 => ?_
  refine G.box fun x2 => ?_
  refine G.new fun x3 => ?_
  try simp (maxSteps := 2000000) only [↓RG, RP, RB, BEq.rfl, Int.reduceEq, Int.reduceLT, Int.reduceLE, Nat.reduceEqDiff]
  have hrf := tDel1_rf (root := root) (k := k) (d := dr0 s)
  have hup := tDel1_up (root := root) (k := k) (d := dr0 s)
  rw [dr0_rf] at hrf
  rw [dr0_up] at hup
  refine s_draft_Do (s := s) (f := fun d => (tDel1 root k d).1) (M := own x3 [.bool (tDel1 root k (dr0 s)).2] :: own x2 [u64 k] :: own x1 [i64 root] :: ob ViewR b s :: M) (few_frees hup (by simp at hrf; omega)) (by omega) (fun c K' hK' => ?_) (fun hb => ?_) (fun hb => ?_)
  · show G w0 _ (CP Tryz.prog Fn.table_Del_1 [ptr c 0, ptr x1 0, ptr x2 0, ptr x3 0] K')
    refine G.pickAll (As := [own x3 [.bool false], ob DraftR c (dr0 s), own x1 [i64 root], own x2 [u64 k]]) ?_
    refine s_Del_1 (M := ob ViewR b s :: M) dr0_ok (by rw [dr0_rf]; simp) ?_
    exact hK'.sub
  · have e : tDel s root k = (s, false, 2) := by unfold tDel; rw [if_pos (badRoot_iff.2 hb)]
    rw [e] at hK
    try simp (maxSteps := 2000000) only [↓RG, RP, RB, BEq.rfl, Int.reduceEq, Int.reduceLT, Int.reduceLE, Nat.reduceEqDiff]
    exact hK.sub
  · have e : tDel s root k = ((dEnd s (tDel1 root k (dr0 s)).1).1, (tDel1 root k (dr0 s)).2 && decide ((dEnd s (tDel1 root k (dr0 s)).1).2 = 0), (dEnd s (tDel1 root k (dr0 s)).1).2) := by unfold tDel; rw [if_neg (fun h => hb (badRoot_iff.1 h))]
    rw [e] at hK
    simp only at hK ⊢
    cases ht : (tDel1 root k (dr0 s)).2
    · rw [ht] at hK
      try simp (maxSteps := 2000000) only [↓RG, RP, RB, BEq.rfl, Int.reduceEq, Int.reduceLT, Int.reduceLE, Nat.reduceEqDiff]
      exact hK.sub
    · rw [ht] at hK
      simp only [Bool.true_and] at hK
      try simp (maxSteps := 2000000) only [↓RG, RP, RB, BEq.rfl, Int.reduceEq, Int.reduceLT, Int.reduceLE, Nat.reduceEqDiff]
      exact hK.sub

theorem s_table_Get [i : SelOb L ViewR b s C] (hs : s.l.r.f.length ≤ 1000) (hK : G w0 (C (ob ViewR b (tGet s root k).1)) (K (.tuple #[u64 (tGet s root k).2.1, .bool (tGet s root k).2.2.1, i64 (tGet s root k).2.2.2]))) : G w0 L (CP Tryz.prog Fn.table_Get [ptr b 0, i64 root, u64 k] K) := by
  refine i.use (fun M hK => ?_) hK
  refine C_table_Get ?_
  unfold S_table_Get
  refine G.box fun x1 => ?_
  refine G.box fun x2 => ?_
  refine G.new fun x3 => ?_
  refine G.new fun x4 => ?_
  try simp (maxSteps := 2000000) only [↓RG, RP, RB, BEq.rfl, Int.reduceEq, Int.reduceLT, Int.reduceLE, Nat.reduceEqDiff]
  have hrf := tGet1_rf (root := root) (k := k) (d := dr0 s)
  have hup := tGet1_up (root := root) (k := k) (d := dr0 s)
  rw [dr0_rf] at hrf
  rw [dr0_up] at hup
  refine s_draft_Do (s := s) (f := fun d => (tGet1 root k d).1) (M := own x3 [u64 (tGet1 root k (dr0 s)).2.1] :: own x4 [.bool (tGet1 root k (dr0 s)).2.2] :: own x2 [u64 k] :: own x1 [i64 root] :: ob ViewR b s :: M) (few_frees hup (by rw [hrf]; simp)) (by omega) (fun c K' hK' => ?_) (fun hb => ?_) (fun hb => ?_)
  · show G w0 _ (CP Tryz.prog Fn.table_Get_1 [ptr c 0, ptr x1 0, ptr x2 0, ptr x3 0, ptr x4 0] K')
    refine G.pickAll (As := [own x3 [u64 0], own x4 [.bool false], ob DraftR c (dr0 s), own x1 [i64 root], own x2 [u64 k]]) ?_
    refine s_Get_1 (M := ob ViewR b s :: M) dr0_ok ?_
    exact hK'.sub
  · have e : tGet s root k = (s, 0, false, 2) := by unfold tGet; rw [if_pos (badRoot_iff.2 hb)]
    rw [e] at hK
    try simp (maxSteps := 2000000) only [↓RG, RP, RB, BEq.rfl, Int.reduceEq, Int.reduceLT, Int.reduceLE, Nat.reduceEqDiff]
    exact hK.sub
  · unfold tGet at hK
    rw [if_neg (fun h => hb (badRoot_iff.1 h))] at hK
    generalize dEnd s (tGet1 root k (dr0 s)).1 = r at hK ⊢
    obtain ⟨s2, er⟩ := r
    simp only at hK ⊢
    by_cases he : er = 0
    · rw [if_pos he] at hK
      try simp (maxSteps := 2000000) only [↓RG, RP, RB, BEq.rfl, Int.reduceEq, Int.reduceLT, Int.reduceLE, Nat.reduceEqDiff, eq_true he]
      refine G.drew ?_
      try simp (maxSteps := 2000000) only [↓RG, RP, RB, BEq.rfl, Int.reduceEq, Int.reduceLT, Int.reduceLE, Nat.reduceEqDiff]
      exact hK.sub
    · rw [if_neg he] at hK
      try simp (maxSteps := 2000000) only [↓RG, RP, RB, BEq.rfl, Int.reduceEq, Int.reduceLT, Int.reduceLE, Nat.reduceEqDiff, he]
      exact hK.sub

theorem tLen1_up {d : DrS} : (tLen1 root d).1.up = d.up := tOpen_up
theorem tLen1_rf {d : DrS} : (tLen1 root d).1.rf = d.rf := tOpen_rf

theorem s_table_Len [i : SelOb L ViewR b s C] (hs : s.l.r.f.length ≤ 1000) (hK : G w0 (C (ob ViewR b (tLen s root).1)) (K (.tuple #[i64 (tLen s root).2.1, i64 (tLen s root).2.2]))) : G w0 L (CP Tryz.prog Fn.table_Len [ptr b 0, i64 root] K) := by
  refine i.use (fun M hK => ?_) hK
  refine C_table_Len ?_
  unfold S_table_Len
  refine G.box fun x1 => ?_
  refine G.new fun x2 => ?_
  try simp (maxSteps := 2000000) only [↓RG, RP, RB, BEq.rfl, Int.reduceEq, Int.reduceLT, Int.reduceLE, Nat.reduceEqDiff]
  have hrf := tLen1_rf (root := root) (d := dr0 s)
  have hup := tLen1_up (root := root) (d := dr0 s)
  rw [dr0_rf] at hrf
  rw [dr0_up] at hup
  refine s_draft_Do (s := s) (f := fun d => (tLen1 root d).1) (M := own x2 [i64 (tLen1 root (dr0 s)).2] :: own x1 [i64 root] :: ob ViewR b s :: M) (few_frees hup (by rw [hrf]; simp)) (by omega) (fun c K' hK' => ?_) (fun hb => ?_) (fun hb => ?_)
  · show G w0 _ (CP Tryz.prog Fn.table_Len_1 [ptr c 0, ptr x1 0, ptr x2 0] K')
    refine G.pickAll (As := [own x2 [i64 0], ob DraftR c (dr0 s), own x1 [i64 root]]) ?_
    refine s_Len_1 (M := ob ViewR b s :: M) ?_
    exact hK'.sub
  · have e : tLen s root = (s, 0, 2) := by unfold tLen; rw [if_pos (badRoot_iff.2 hb)]
    rw [e] at hK
    try simp (maxSteps := 2000000) only [↓RG, RP, RB, BEq.rfl, Int.reduceEq, Int.reduceLT, Int.reduceLE, Nat.reduceEqDiff]
    exact hK.sub
  · unfold tLen at hK
    rw [if_neg (fun h => hb (badRoot_iff.1 h))] at hK
    generalize dEnd s (tLen1 root (dr0 s)).1 = r at hK ⊢
    obtain ⟨s2, er⟩ := r
    simp only at hK ⊢
    by_cases he : er = 0
    · rw [if_pos he] at hK
      try simp (maxSteps := 2000000) only [↓RG, RP, RB, BEq.rfl, Int.reduceEq, Int.reduceLT, Int.reduceLE, Nat.reduceEqDiff, eq_true he]
      exact hK.sub
    · rw [if_neg he] at hK
      try simp (maxSteps := 2000000) only [↓RG, RP, RB, BEq.rfl, Int.reduceEq, Int.reduceLT, Int.reduceLE, Nat.reduceEqDiff, he]
      exact hK.sub

end
end Go.Proofs.YtokbiojkpldfeaaGreat.S

/-
  CHAPTER 18: package table: all that is there, as it lies.
-/
namespace Go.Proofs.YtokbiojkpldfeaaGreat.S
open Go Go.Proofs
set_option linter.unusedVariables false
set_option linter.unusedSimpArgs false

def allF (out : List TPair) (d : DrS) (a : Int) : List TPair × DrS := (out ++ [⟨(dRead d (w64 (a + 0))).2, (dRead (dRead d (w64 (a + 0))).1 (w64 (a + 1))).2⟩], (dRead (dRead d (w64 (a + 0))).1 (w64 (a + 1))).1)
theorem allF_steps {out : List TPair} {d : DrS} {a : Int} : (allF out d a).2.steps = d.steps := by unfold allF; simp only; rw [dRead_steps, dRead_steps]
theorem allF_up {out : List TPair} {d : DrS} {a : Int} : (allF out d a).2.up = d.up := by unfold allF; simp only; rw [dRead_up, dRead_up]
theorem allF_rf {out : List TPair} {d : DrS} {a : Int} : (allF out d a).2.rf = d.rf := by unfold allF; simp only; rw [dRead_rf, dRead_rf]
def tAll1 (root : Int) (d : DrS) : DrS × List TPair :=
  if (tOpen d root).1.err = 0 ∧ (tOpen d root).2.head ≠ 0 then ((tEach allF (tOpen d root).2 [] (tOpen d root).1).2, (tEach allF (tOpen d root).2 [] (tOpen d root).1).1) else ((tOpen d root).1, [])
theorem tAll1_up {root : Int} {d : DrS} : (tAll1 root d).1.up = d.up := by
  unfold tAll1
  split
  · simp only; rw [tEach_up (fun s d a => allF_up), tOpen_up]
  · exact tOpen_up
theorem tAll1_rf {root : Int} {d : DrS} : (tAll1 root d).1.rf = d.rf := by
  unfold tAll1
  split
  · simp only; rw [tEach_rf (fun s d a => allF_rf), tOpen_rf]
  · exact tOpen_rf

section
variable {w0 : Base} {L M : List Asn} {K : KV} {F : World → Prop} {C : Asn → List Asn} {b tp xo xd xr : Nat} {d : DrS} {t : TbS} {n a x e k root : Int}

theorem s_All_1_1 {out : List TPair} (hl : out.length ≤ 1000000) (hK : G w0 (ob (BoxR tPairE) xo (allF out d a).1 :: ob DraftR b (allF out d a).2 :: own tp (t.cells b) :: own xd [ptr b 0] :: own xr [i64 root] :: M) (K (.tuple #[]))) :
    G w0 (ob (BoxR tPairE) xo out :: ob DraftR b d :: own tp (t.cells b) :: own xd [ptr b 0] :: own xr [i64 root] :: M) (CP Tryz.prog Fn.table_All_1_1 [i64 a, ptr xo 0, ptr xd 0] K) := by
  refine C_table_All_1_1 ?_
  unfold S_table_All_1_1
  unfold allF at hK
  rw [BoxR_open]
  intro v hv
  refine G.drew ?_
  try simp (maxSteps := 2000000) only [↓RG, RB, BEq.rfl, Int.reduceEq, Int.reduceLT, Int.reduceLE, Nat.reduceEqDiff]
  refine s_draft_Read (d := d) ?_
  generalize dRead d (w64 (a + 0)) = r at hK ⊢
  obtain ⟨d1, y1⟩ := r
  simp only at hK ⊢
  try simp (maxSteps := 2000000) only [↓RG, RB, BEq.rfl, Int.reduceEq, Int.reduceLT, Int.reduceLE, Nat.reduceEqDiff]
  refine s_draft_Read (d := d1) ?_
  generalize dRead d1 (w64 (a + 1)) = r at hK ⊢
  obtain ⟨d2, y2⟩ := r
  simp only at hK ⊢
  try simp (maxSteps := 2000000) only [↓RG, RB, BEq.rfl, Int.reduceEq, Int.reduceLT, Int.reduceLE, Nat.reduceEqDiff]
  refine G.build tPairE [⟨y1, y2⟩] rfl (by simp) rfl fun y hy => ?_
  try simp (maxSteps := 2000000) only [↓RG, RB, BEq.rfl, Int.reduceEq, Int.reduceLT, Int.reduceLE, Nat.reduceEqDiff]
  refine G.append (ys := [⟨y1, y2⟩]) (by simp; omega) (by simp [maxLen]; omega) fun u hu => ?_
  try simp (maxSteps := 2000000) only [↓RG, RB, BEq.rfl, Int.reduceEq, Int.reduceLT, Int.reduceLE, Nat.reduceEqDiff]
  rw [BoxR_open] at hK
  exact (hK u hu).sub

theorem s_All_1 (hs : StOk d 0) (hK : G w0 (ob (BoxR tPairE) xo (tAll1 root d).2 :: ob DraftR b (tAll1 root d).1 :: own xr [i64 root] :: M) (K (.tuple #[]))) :
    G w0 (ob (BoxR tPairE) xo [] :: ob DraftR b d :: own xr [i64 root] :: M) (CP Tryz.prog Fn.table_All_1 [ptr b 0, ptr xr 0, ptr xo 0] K) := by
  refine C_table_All_1 ?_
  unfold S_table_All_1
  unfold tAll1 at hK
  try simp (maxSteps := 2000000) only [fuse_and, fuse_or, fuse_step, fuse_pair, fuse_in, andP_true]
  refine G.box fun xd => ?_
  try simp (maxSteps := 2000000) only [↓RG, RP, RB, BEq.rfl, Int.reduceEq, Int.reduceLT, Int.reduceLE, Nat.reduceEqDiff]
  refine s_table_open (d := d) fun tp => ?_
  have hst := tOpen_steps (d := d) (r := root)
  have hwd := tOpen_wide (d := d) (r := root)
  generalize tOpen d root = m at hK hst hwd ⊢
  obtain ⟨d1, t⟩ := m
  simp only at hK hst hwd ⊢
  try simp (maxSteps := 2000000) only [↓RG, RP, RB, BEq.rfl, Int.reduceEq, Int.reduceLT, Int.reduceLE, Nat.reduceEqDiff]
  refine s_draft_OK (d := d1) ?_
  by_cases h1 : d1.err = 0
  · by_cases h2 : t.head = 0
    · rw [if_neg (fun h => h.2 h2)] at hK
      try simp (maxSteps := 2000000) only [↓RG, RP, RB, BEq.rfl, Int.reduceEq, Int.reduceLT, Int.reduceLE, Nat.reduceEqDiff, eq_true h1, eq_true h2]
      exact hK.sub
    · rw [if_pos ⟨h1, h2⟩] at hK
      try simp (maxSteps := 2000000) only [↓RG, RP, RB, BEq.rfl, Int.reduceEq, Int.reduceLT, Int.reduceLE, Nat.reduceEqDiff, eq_true h1, h2]
      refine G.pickAll (As := [ob (BoxR tPairE) xo [], ob DraftR b d1, own tp (t.cells b), own xd [ptr b 0], own xr [i64 root]]) ?_
      show G w0 (ob (BoxR tPairE) xo [] :: ob DraftR b d1 :: own tp (t.cells b) :: own xd [ptr b 0] :: own xr [i64 root] :: M) _
      refine s_table_each (b := b) (t := t) (d := d1) (s := ([] : List TPair)) (f := allF) (Pc := fun s => ob (BoxR tPairE) xo s) (Good := fun s k => (s.length : Int) ≤ k) (M := own xd [ptr b 0] :: own xr [i64 root] :: M) (m := 0) (hs.eq hst) (by omega) (by omega) (by have := (hs.eq hst).1; simpa using this) (fun s k h => by omega) (fun s d a h => ⟨by unfold allF; simp; omega, allF_steps⟩) (fun s d a K' h h2 hK' => ?_) ?_
      · show G w0 _ (CP Tryz.prog Fn.table_All_1_1 [i64 a, ptr xo 0, ptr xd 0] K')
        exact s_All_1_1 (by omega) hK'
      · try simp (maxSteps := 2000000) only [↓RG, RP, RB, BEq.rfl, Int.reduceEq, Int.reduceLT, Int.reduceLE, Nat.reduceEqDiff]
        exact hK.sub
  · rw [if_neg (fun h => h1 h.1)] at hK
    try simp (maxSteps := 2000000) only [↓RG, RP, RB, BEq.rfl, Int.reduceEq, Int.reduceLT, Int.reduceLE, Nat.reduceEqDiff, h1]
    exact hK.sub
end
end Go.Proofs.YtokbiojkpldfeaaGreat.S
