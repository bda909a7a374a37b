/-
  CHAPTER 18: package table: all that is there, as it lies.
-/
import Derived.Test.YtokbiojkpldfeaaTableD
namespace Go.Proofs.Ytokbiojkpldfeaa.S
open Go Go.Proofs
set_option linter.unusedVariables false
set_option linter.unusedSimpArgs false

def allF (out : List TPair) (d : DrS) (a : Int) : List TPair × DrS := (out ++ [⟨(dRead d (w64 (a + 0))).2, (dRead (dRead d (w64 (a + 0))).1 (w64 (a + 1))).2⟩], (dRead (dRead d (w64 (a + 0))).1 (w64 (a + 1))).1)
theorem allF_steps {out : List TPair} {d : DrS} {a : Int} : (allF out d a).2.steps = d.steps := by unfold allF; simp only; rw [dRead_steps, dRead_steps]
theorem allF_up {out : List TPair} {d : DrS} {a : Int} : (allF out d a).2.up = d.up := by unfold allF; simp only; rw [dRead_up, dRead_up]
theorem allF_rf {out : List TPair} {d : DrS} {a : Int} : (allF out d a).2.rf = d.rf := by unfold allF; simp only; rw [dRead_rf, dRead_rf]
def tAll1 (root : Int) (d : DrS) : DrS × List TPair :=
  if (tOpen d root).1.err = 0 ∧ (tOpen d root).2.head ≠ 0 then ((tEach allF (tOpen d root).2 [] (tOpen d root).1).2, (tEach allF (tOpen d root).2 [] (tOpen d root).1).1) else ((tOpen d root).1, [])
theorem tAll1_up {root : Int} {d : DrS} : (tAll1 root d).1.up = d.up := by
  unfold tAll1
  split
  · simp only; rw [tEach_up (fun s d a => allF_up), tOpen_up]
  · exact tOpen_up
theorem tAll1_rf {root : Int} {d : DrS} : (tAll1 root d).1.rf = d.rf := by
  unfold tAll1
  split
  · simp only; rw [tEach_rf (fun s d a => allF_rf), tOpen_rf]
  · exact tOpen_rf

section
variable {w0 : Base} {L M : List Asn} {K : KV} {F : World → Prop} {C : Asn → List Asn} {b tp xo xd xr : Nat} {d : DrS} {t : TbS} {n a x e k root : Int}

theorem s_All_1_1 {out : List TPair} (hl : out.length ≤ 1000000) (hK : G w0 (ob (BoxR tPairE) xo (allF out d a).1 :: ob DraftR b (allF out d a).2 :: own tp (t.cells b) :: own xd [ptr b 0] :: own xr [i64 root] :: M) (K (.tuple #[]))) :
    G w0 (ob (BoxR tPairE) xo out :: ob DraftR b d :: own tp (t.cells b) :: own xd [ptr b 0] :: own xr [i64 root] :: M) (CP Try.prog Fn.table_All_1_1 [i64 a, ptr xo 0, ptr xd 0] K) := by
  refine C_table_All_1_1 ?_
  unfold S_table_All_1_1
  unfold allF at hK
  rw [BoxR_open]
  intro v hv
  refine G.drew ?_
  try simp (maxSteps := 2000000) only [↓RG, true_and, and_true, beq_true, beq_false, Bool.true_beq, Bool.false_beq, BEq.rfl, Int.reduceEq, Int.reduceLT, Int.reduceLE, Nat.reduceEqDiff, decide_true, decide_false, Bool.not_true, Bool.not_false, Bool.and_true, Bool.true_and, Bool.and_false, Bool.false_and, Bool.or_true, Bool.true_or, Bool.or_false, Bool.false_or, Bool.not_not]
  refine s_draft_Read (d := d) ?_
  generalize dRead d (w64 (a + 0)) = r at hK ⊢
  obtain ⟨d1, y1⟩ := r
  simp only at hK ⊢
  try simp (maxSteps := 2000000) only [↓RG, true_and, and_true, beq_true, beq_false, Bool.true_beq, Bool.false_beq, BEq.rfl, Int.reduceEq, Int.reduceLT, Int.reduceLE, Nat.reduceEqDiff, decide_true, decide_false, Bool.not_true, Bool.not_false, Bool.and_true, Bool.true_and, Bool.and_false, Bool.false_and, Bool.or_true, Bool.true_or, Bool.or_false, Bool.false_or, Bool.not_not]
  refine s_draft_Read (d := d1) ?_
  generalize dRead d1 (w64 (a + 1)) = r at hK ⊢
  obtain ⟨d2, y2⟩ := r
  simp only at hK ⊢
  try simp (maxSteps := 2000000) only [↓RG, true_and, and_true, beq_true, beq_false, Bool.true_beq, Bool.false_beq, BEq.rfl, Int.reduceEq, Int.reduceLT, Int.reduceLE, Nat.reduceEqDiff, decide_true, decide_false, Bool.not_true, Bool.not_false, Bool.and_true, Bool.true_and, Bool.and_false, Bool.false_and, Bool.or_true, Bool.true_or, Bool.or_false, Bool.false_or, Bool.not_not]
  refine G.build tPairE [⟨y1, y2⟩] rfl (by simp) rfl fun y hy => ?_
  try simp (maxSteps := 2000000) only [↓RG, true_and, and_true, beq_true, beq_false, Bool.true_beq, Bool.false_beq, BEq.rfl, Int.reduceEq, Int.reduceLT, Int.reduceLE, Nat.reduceEqDiff, decide_true, decide_false, Bool.not_true, Bool.not_false, Bool.and_true, Bool.true_and, Bool.and_false, Bool.false_and, Bool.or_true, Bool.true_or, Bool.or_false, Bool.false_or, Bool.not_not]
  refine G.append (ys := [⟨y1, y2⟩]) (by simp; omega) (by simp [maxLen]; omega) fun u hu => ?_
  try simp (maxSteps := 2000000) only [↓RG, true_and, and_true, beq_true, beq_false, Bool.true_beq, Bool.false_beq, BEq.rfl, Int.reduceEq, Int.reduceLT, Int.reduceLE, Nat.reduceEqDiff, decide_true, decide_false, Bool.not_true, Bool.not_false, Bool.and_true, Bool.true_and, Bool.and_false, Bool.false_and, Bool.or_true, Bool.true_or, Bool.or_false, Bool.false_or, Bool.not_not]
  rw [BoxR_open] at hK
  exact (hK u hu).sub

theorem s_All_1 (hs : StOk d 0) (hK : G w0 (ob (BoxR tPairE) xo (tAll1 root d).2 :: ob DraftR b (tAll1 root d).1 :: own xr [i64 root] :: M) (K (.tuple #[]))) :
    G w0 (ob (BoxR tPairE) xo [] :: ob DraftR b d :: own xr [i64 root] :: M) (CP Try.prog Fn.table_All_1 [ptr b 0, ptr xr 0, ptr xo 0] K) := by
  refine C_table_All_1 ?_
  unfold S_table_All_1
  unfold tAll1 at hK
  try simp (maxSteps := 2000000) only [fuse_and, fuse_or, fuse_step, fuse_pair, fuse_in, andP_true]
  refine G.box fun xd => ?_
  try simp (maxSteps := 2000000) only [↓RG, RP, true_and, and_true, beq_true, beq_false, Bool.true_beq, Bool.false_beq, BEq.rfl, Int.reduceEq, Int.reduceLT, Int.reduceLE, Nat.reduceEqDiff, decide_true, decide_false, Bool.not_true, Bool.not_false, Bool.and_true, Bool.true_and, Bool.and_false, Bool.false_and, Bool.or_true, Bool.true_or, Bool.or_false, Bool.false_or, Bool.not_not]
  refine s_table_open (d := d) fun tp => ?_
  have hst := tOpen_steps (d := d) (r := root)
  have hwd := tOpen_wide (d := d) (r := root)
  generalize tOpen d root = m at hK hst hwd ⊢
  obtain ⟨d1, t⟩ := m
  simp only at hK hst hwd ⊢
  try simp (maxSteps := 2000000) only [↓RG, RP, true_and, and_true, beq_true, beq_false, Bool.true_beq, Bool.false_beq, BEq.rfl, Int.reduceEq, Int.reduceLT, Int.reduceLE, Nat.reduceEqDiff, decide_true, decide_false, Bool.not_true, Bool.not_false, Bool.and_true, Bool.true_and, Bool.and_false, Bool.false_and, Bool.or_true, Bool.true_or, Bool.or_false, Bool.false_or, Bool.not_not]
  refine s_draft_OK (d := d1) ?_
  by_cases h1 : d1.err = 0
  · by_cases h2 : t.head = 0
    · rw [if_neg (fun h => h.2 h2)] at hK
      try simp (maxSteps := 2000000) only [↓RG, RP, true_and, and_true, beq_true, beq_false, Bool.true_beq, Bool.false_beq, BEq.rfl, Int.reduceEq, Int.reduceLT, Int.reduceLE, Nat.reduceEqDiff, decide_true, decide_false, Bool.not_true, Bool.not_false, Bool.and_true, Bool.true_and, Bool.and_false, Bool.false_and, Bool.or_true, Bool.true_or, Bool.or_false, Bool.false_or, Bool.not_not, eq_true h1, eq_true h2]
      exact hK.sub
    · rw [if_pos ⟨h1, h2⟩] at hK
      try simp (maxSteps := 2000000) only [↓RG, RP, true_and, and_true, beq_true, beq_false, Bool.true_beq, Bool.false_beq, BEq.rfl, Int.reduceEq, Int.reduceLT, Int.reduceLE, Nat.reduceEqDiff, decide_true, decide_false, Bool.not_true, Bool.not_false, Bool.and_true, Bool.true_and, Bool.and_false, Bool.false_and, Bool.or_true, Bool.true_or, Bool.or_false, Bool.false_or, Bool.not_not, eq_true h1, h2]
      refine G.pickAll (As := [ob (BoxR tPairE) xo [], ob DraftR b d1, own tp (t.cells b), own xd [ptr b 0], own xr [i64 root]]) ?_
      show G w0 (ob (BoxR tPairE) xo [] :: ob DraftR b d1 :: own tp (t.cells b) :: own xd [ptr b 0] :: own xr [i64 root] :: M) _
      refine s_table_each (b := b) (t := t) (d := d1) (s := ([] : List TPair)) (f := allF) (Pc := fun s => ob (BoxR tPairE) xo s) (Good := fun s k => (s.length : Int) ≤ k) (M := own xd [ptr b 0] :: own xr [i64 root] :: M) (m := 0) (hs.eq hst) (by omega) (by omega) (by have := (hs.eq hst).1; simpa using this) (fun s k h => by omega) (fun s d a h => ⟨by unfold allF; simp; omega, allF_steps⟩) (fun s d a K' h h2 hK' => ?_) ?_
      · show G w0 _ (CP Try.prog Fn.table_All_1_1 [i64 a, ptr xo 0, ptr xd 0] K')
        exact s_All_1_1 (by omega) hK'
      · try simp (maxSteps := 2000000) only [↓RG, RP, true_and, and_true, beq_true, beq_false, Bool.true_beq, Bool.false_beq, BEq.rfl, Int.reduceEq, Int.reduceLT, Int.reduceLE, Nat.reduceEqDiff, decide_true, decide_false, Bool.not_true, Bool.not_false, Bool.and_true, Bool.true_and, Bool.and_false, Bool.false_and, Bool.or_true, Bool.true_or, Bool.or_false, Bool.false_or, Bool.not_not]
        exact hK.sub
  · rw [if_neg (fun h => h1 h.1)] at hK
    try simp (maxSteps := 2000000) only [↓RG, RP, true_and, and_true, beq_true, beq_false, Bool.true_beq, Bool.false_beq, BEq.rfl, Int.reduceEq, Int.reduceLT, Int.reduceLE, Nat.reduceEqDiff, decide_true, decide_false, Bool.not_true, Bool.not_false, Bool.and_true, Bool.true_and, Bool.and_false, Bool.false_and, Bool.or_true, Bool.true_or, Bool.or_false, Bool.false_or, Bool.not_not, h1]
    exact hK.sub
end
end Go.Proofs.Ytokbiojkpldfeaa.S
