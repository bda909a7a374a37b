/-
  CHAPTER 18: a step: one call on a heap and on plain rows.
-/
import Derived.Test.YtokbiojkpldfeaaGreatSteps
namespace Go.Proofs.YtokbiojkpldfeaaGreat.S
open Go Go.Proofs
set_option linter.unusedVariables false
set_option linter.unusedSimpArgs false
section
variable {w0 : Base} {L M : List Asn} {K : KV} {F : World → Prop} {C : Asn → List Asn} {b : Nat} {w w' : List Int} {v cv : Value} {p : List TPair × List TPair} {c : TCall} {L' : List TPair}
theorem dEnd_rf {s : VwS} {d : DrS} : (dEnd s d).1.l.r.f.length ≤ s.l.r.f.length + d.v.l.frees.length := by
  unfold dEnd
  split
  · rw [vRead_l]; omega
  · split
    · split
      · show (freeAll (vTake s d.v.l.cells).1.l d.v.l.frees).r.f.length ≤ _
        rw [freeAll_f, List.length_append, vTake_rf]
        exact Nat.le_refl _
      · rw [vTake_rf]; omega
    · show s.l.r.f.length ≤ _; omega
theorem tAll_rf {s : VwS} {root : Int} : (tAll s root).1.l.r.f.length ≤ s.l.r.f.length := by
  have hrf := tAll1_rf (root := root) (d := dr0 s)
  have hup := tAll1_up (root := root) (d := dr0 s)
  rw [dr0_rf] at hrf
  rw [dr0_up] at hup
  have h0 : (tAll1 root (dr0 s)).1.v.l.frees.length ≤ 0 := few_frees hup (by rw [hrf]; exact Nat.le_refl _)
  have h1 := dEnd_rf (s := s) (d := (tAll1 root (dr0 s)).1)
  unfold tAll
  split
  · exact Nat.le_refl _
  · split
    · show (dEnd s (tAll1 root (dr0 s)).1).1.l.r.f.length ≤ _; omega
    · show (dEnd s (tAll1 root (dr0 s)).1).1.l.r.f.length ≤ _; omega

theorem s_step_2 [iv : Cells cv (TCall.cells c)] (hv : Cells v [v]) (hw : OkHp w) (hp : cPlace c = 2) (hwh : cWhich c = 4 ∨ cWhich c = 5 ∨ cWhich c = 6) (hl : p.1.length ≤ 1000000) (hl2 : L'.length ≤ 1000000) (hS : StepR w p.1 8 c w' L')
    (hK : ∀ u, Cells u [u] → OkHp w' → G w0 (ob ObjR b (L', p.2) :: sl wordE u w' :: M) (K (.tuple #[u, .bool true]))) : G w0 (ob ObjR b p :: sl wordE v w :: M) (CP Tryz.prog Fn.law18_step [v, ptr b 0, cv] K) := by
  refine C_law18_step ?_
  unfold S_law18_step
  try simp (maxSteps := 2000000) only [fuse_and, fuse_or, fuse_step, fuse_pair, fuse_in, andP_true]
  refine G.box fun x1 => ?_
  refine s_view_Whole (ws := w) (m := 96) (by rw [hw.1]; decide) fun q => ?_
  try simp (maxSteps := 2000000) only [↓RG, RP, RB, BEq.rfl, Int.reduceEq, Int.reduceLT, Int.reduceLE, Nat.reduceEqDiff]
  refine s_keep_Call_Place (v := .agg (TCall.cells c).toArray) (c := c) ?_
  rw [hp]
  have e8 : IntKind.wrap .i64 (6 + 2) = 8 := by decide
  try simp (maxSteps := 2000000) only [↓RG, RP, RB, BEq.rfl, Int.reduceEq, Int.reduceLT, Int.reduceLE, Nat.reduceEqDiff]
  rw [e8]
  refine s_law18_call (b := q) (s := vAll w 96) (c := c) (by show 0 ≤ _; omega) ?_
  rcases hS with ⟨cs, f, it, e1, e2, g1, g2, g3, g4, g5⟩ | ⟨it, e1, e2, e3, e4, e5⟩
  · rw [e1]
    try simp (maxSteps := 2000000) only [↓RG, RP, RB, BEq.rfl, Int.reduceEq, Int.reduceLT, Int.reduceLE, Nat.reduceEqDiff]
    refine G.new fun x2 => ?_
    try simp (maxSteps := 2000000) only [↓RG, RP, RB, BEq.rfl, Int.reduceEq, Int.reduceLT, Int.reduceLE, Nat.reduceEqDiff]
    refine s_Do_2 (p := p) (c := c) hp hwh hl ?_
    rw [e2]
    try simp (maxSteps := 2000000) only [↓RG, RP, RB, BEq.rfl, Int.reduceEq, Int.reduceLT, Int.reduceLE, Nat.reduceEqDiff]
    refine G.new fun x3 => ?_
    have h3 : (decide (it.sort = it.sort) && decide (it.n = it.n)) = true := by simp
    try simp (maxSteps := 2000000) only [↓RG, RP, RB, BEq.rfl, Int.reduceEq, Int.reduceLT, Int.reduceLE, Nat.reduceEqDiff, h3]
    refine s_view_Depth (b := q) (s := outV (vAll w 96) cs f) ?_
    have hd : ((((outV (vAll w 96) cs f).l.up.length + 1 : Nat)) : Int) = 1 := rfl
    rw [hd]
    try simp (maxSteps := 2000000) only [↓RG, RP, RB, BEq.rfl, Int.reduceEq, Int.reduceLT, Int.reduceLE, Nat.reduceEqDiff]
    refine s_law18_settle (b := q) (s := outV (vAll w 96) cs f) (w := w) (w' := w') hw rfl (by show f.length ≤ 1000; omega) g4 g3 fun u hu hw' => ?_
    try simp (maxSteps := 2000000) only [↓RG, RP, RB, BEq.rfl, Int.reduceEq, Int.reduceLT, Int.reduceLE, Nat.reduceEqDiff]
    refine s_view_Whole (ws := w') (m := 96) (by rw [hw'.1]; decide) fun q2 => ?_
    try simp (maxSteps := 2000000) only [↓RG, RP, RB, BEq.rfl, Int.reduceEq, Int.reduceLT, Int.reduceLE, Nat.reduceEqDiff]
    refine s_law18_all (b := q2) (s := vAll w' 96) (by show 0 ≤ _; omega) (Nat.le_trans tAll_rf (by show 0 ≤ _; omega)) fun u2 hu2 => ?_
    rw [g5]
    have hu22 := hu2
    try simp (maxSteps := 2000000) only [↓RG, RP, RB, BEq.rfl, Int.reduceEq, Int.reduceLT, Int.reduceLE, Nat.reduceEqDiff]
    refine G.drew ?_
    try simp (maxSteps := 2000000) only [↓RG, RP, RB, BEq.rfl, Int.reduceEq, Int.reduceLT, Int.reduceLE, Nat.reduceEqDiff]
    refine s_keep_Call_Place (v := .agg (TCall.cells c).toArray) (c := c) ?_
    rw [hp]
    have ha : ∀ {L : List Asn} {K : KV}, G w0 L (idxArrW 8 1 (ptr b 0) (i64 2) K) = G w0 L (K (ptr b 2)) := G_aidx (k := 2) rfl (by decide)
    refine G.sub (L' := ob ObjR b (L', p.2) :: sl tPairE u2 L' :: sl wordE u w' :: ob ViewR q2 (vAll w' 96) :: M) ?_
    rw [ObjR_open]
    intro v2 v3 hv23
    have hv2 := hv23.1
    have hv3 := hv23.2
    try simp (maxSteps := 2000000) only [↓RG, RP, RB, BEq.rfl, Int.reduceEq, Int.reduceLT, Int.reduceLE, Nat.reduceEqDiff, ha]
    refine s_book_Same_api_Pair (xs := L') (ys := L') hl2 ?_
    rw [decide_eq_true (rfl : L' = L')]
    try simp (maxSteps := 2000000) only [↓RG, RP, RB, BEq.rfl, Int.reduceEq, Int.reduceLT, Int.reduceLE, Nat.reduceEqDiff]
    refine s_view_Cells (b := q2) (s := vAll w' 96) fun u3 hu3 => ?_
    have h0 : decide (((vAll w' 96).l.cells.length : Int) = 0) = true := decide_eq_true rfl
    try simp (maxSteps := 2000000) only [↓RG, RP, RB, BEq.rfl, Int.reduceEq, Int.reduceLT, Int.reduceLE, Nat.reduceEqDiff, h0]
    refine ObjR_close (v2 := v2) (v3 := v3) b (L', p.2) rfl hv23 ?_
    exact (hK u hu hw').sub
  · rw [e1]
    have e4 := e4.symm
    have e5 := e5.symm
    subst e4
    subst e5
    try simp (maxSteps := 2000000) only [↓RG, RP, RB, BEq.rfl, Int.reduceEq, Int.reduceLT, Int.reduceLE, Nat.reduceEqDiff]
    refine G.new fun x2 => ?_
    have h256 : decide ((5 : Int) < (w.length : Int)) = true := decide_eq_true (by rw [hw.1]; omega)
    try simp (maxSteps := 2000000) only [↓RG, RP, RB, BEq.rfl, Int.reduceEq, Int.reduceLT, Int.reduceLE, Nat.reduceEqDiff, h256]
    have h5 : 5 < w.length := by rw [hw.1]; omega
    have e := elem_of h5
    have z5 : hOf w 5 = w[5] := by
      show w.getD 5 0 = _
      rw [List.getD_eq_getElem?_getD, List.getElem?_eq_getElem h5]; rfl
    rw [z5] at e2 e3
    generalize w[5] = z at e e2 e3
    have eA : IntKind.wrap .u64 (z + 40) = z + 40 := wu64 (by omega) (by omega)
    have eB : IntKind.wrap .u64 (w.length : Int) = 256 := by rw [hw.1]; decide
    have eC : decide ((256 : Int) < z + 40) = true := decide_eq_true e2
    have e0 : (5 : Int) = ((5 : Nat) : Int) := rfl
    rw [e0]
    try simp (maxSteps := 2000000) only [↓RG, RP, RB, BEq.rfl, Int.reduceEq, Int.reduceLT, Int.reduceLE, Nat.reduceEqDiff, eA, eB, eC]
    refine s_view_Cells (b := q) (s := vAll w 96) fun u3 hu3 => ?_
    have h0 : decide (((vAll w 96).l.cells.length : Int) = 0) = true := decide_eq_true rfl
    try simp (maxSteps := 2000000) only [↓RG, RP, RB, BEq.rfl, Int.reduceEq, Int.reduceLT, Int.reduceLE, Nat.reduceEqDiff, h0]
    refine s_view_Frees (b := q) (s := vAll w 96) (by show 0 ≤ _; omega) fun u4 hu4 => ?_
    have h1 : decide (((vAll w 96).l.frees.length : Int) = 0) = true := decide_eq_true rfl
    try simp (maxSteps := 2000000) only [↓RG, RP, RB, BEq.rfl, Int.reduceEq, Int.reduceLT, Int.reduceLE, Nat.reduceEqDiff, h1]
    refine s_view_Depth (b := q) (s := vAll w 96) ?_
    have hd : ((((vAll w 96).l.up.length + 1 : Nat)) : Int) = 1 := rfl
    rw [hd]
    try simp (maxSteps := 2000000) only [↓RG, RP, RB, BEq.rfl, Int.reduceEq, Int.reduceLT, Int.reduceLE, Nat.reduceEqDiff]
    exact (hK v hv hw).sub

theorem s_step_3 [iv : Cells cv (TCall.cells c)] (hv : Cells v [v]) (hw : OkHp w) (hp : cPlace c = 3) (hwh : cWhich c = 4 ∨ cWhich c = 5 ∨ cWhich c = 6) (hl : p.2.length ≤ 1000000) (hl2 : L'.length ≤ 1000000) (hS : StepR w p.2 9 c w' L')
    (hK : ∀ u, Cells u [u] → OkHp w' → G w0 (ob ObjR b (p.1, L') :: sl wordE u w' :: M) (K (.tuple #[u, .bool true]))) : G w0 (ob ObjR b p :: sl wordE v w :: M) (CP Tryz.prog Fn.law18_step [v, ptr b 0, cv] K) := by
  refine C_law18_step ?_
  unfold S_law18_step
  try simp (maxSteps := 2000000) only [fuse_and, fuse_or, fuse_step, fuse_pair, fuse_in, andP_true]
  refine G.box fun x1 => ?_
  refine s_view_Whole (ws := w) (m := 96) (by rw [hw.1]; decide) fun q => ?_
  try simp (maxSteps := 2000000) only [↓RG, RP, RB, BEq.rfl, Int.reduceEq, Int.reduceLT, Int.reduceLE, Nat.reduceEqDiff]
  refine s_keep_Call_Place (v := .agg (TCall.cells c).toArray) (c := c) ?_
  rw [hp]
  have e8 : IntKind.wrap .i64 (6 + 3) = 9 := by decide
  try simp (maxSteps := 2000000) only [↓RG, RP, RB, BEq.rfl, Int.reduceEq, Int.reduceLT, Int.reduceLE, Nat.reduceEqDiff]
  rw [e8]
  refine s_law18_call (b := q) (s := vAll w 96) (c := c) (by show 0 ≤ _; omega) ?_
  rcases hS with ⟨cs, f, it, e1, e2, g1, g2, g3, g4, g5⟩ | ⟨it, e1, e2, e3, e4, e5⟩
  · rw [e1]
    try simp (maxSteps := 2000000) only [↓RG, RP, RB, BEq.rfl, Int.reduceEq, Int.reduceLT, Int.reduceLE, Nat.reduceEqDiff]
    refine G.new fun x2 => ?_
    try simp (maxSteps := 2000000) only [↓RG, RP, RB, BEq.rfl, Int.reduceEq, Int.reduceLT, Int.reduceLE, Nat.reduceEqDiff]
    refine s_Do_3 (p := p) (c := c) hp hwh hl ?_
    rw [e2]
    try simp (maxSteps := 2000000) only [↓RG, RP, RB, BEq.rfl, Int.reduceEq, Int.reduceLT, Int.reduceLE, Nat.reduceEqDiff]
    refine G.new fun x3 => ?_
    have h3 : (decide (it.sort = it.sort) && decide (it.n = it.n)) = true := by simp
    try simp (maxSteps := 2000000) only [↓RG, RP, RB, BEq.rfl, Int.reduceEq, Int.reduceLT, Int.reduceLE, Nat.reduceEqDiff, h3]
    refine s_view_Depth (b := q) (s := outV (vAll w 96) cs f) ?_
    have hd : ((((outV (vAll w 96) cs f).l.up.length + 1 : Nat)) : Int) = 1 := rfl
    rw [hd]
    try simp (maxSteps := 2000000) only [↓RG, RP, RB, BEq.rfl, Int.reduceEq, Int.reduceLT, Int.reduceLE, Nat.reduceEqDiff]
    refine s_law18_settle (b := q) (s := outV (vAll w 96) cs f) (w := w) (w' := w') hw rfl (by show f.length ≤ 1000; omega) g4 g3 fun u hu hw' => ?_
    try simp (maxSteps := 2000000) only [↓RG, RP, RB, BEq.rfl, Int.reduceEq, Int.reduceLT, Int.reduceLE, Nat.reduceEqDiff]
    refine s_view_Whole (ws := w') (m := 96) (by rw [hw'.1]; decide) fun q2 => ?_
    try simp (maxSteps := 2000000) only [↓RG, RP, RB, BEq.rfl, Int.reduceEq, Int.reduceLT, Int.reduceLE, Nat.reduceEqDiff]
    refine s_law18_all (b := q2) (s := vAll w' 96) (by show 0 ≤ _; omega) (Nat.le_trans tAll_rf (by show 0 ≤ _; omega)) fun u2 hu2 => ?_
    rw [g5]
    have hu22 := hu2
    try simp (maxSteps := 2000000) only [↓RG, RP, RB, BEq.rfl, Int.reduceEq, Int.reduceLT, Int.reduceLE, Nat.reduceEqDiff]
    refine G.drew ?_
    try simp (maxSteps := 2000000) only [↓RG, RP, RB, BEq.rfl, Int.reduceEq, Int.reduceLT, Int.reduceLE, Nat.reduceEqDiff]
    refine s_keep_Call_Place (v := .agg (TCall.cells c).toArray) (c := c) ?_
    rw [hp]
    have ha : ∀ {L : List Asn} {K : KV}, G w0 L (idxArrW 8 1 (ptr b 0) (i64 3) K) = G w0 L (K (ptr b 3)) := G_aidx (k := 3) rfl (by decide)
    refine G.sub (L' := ob ObjR b (p.1, L') :: sl tPairE u2 L' :: sl wordE u w' :: ob ViewR q2 (vAll w' 96) :: M) ?_
    rw [ObjR_open]
    intro v2 v3 hv23
    have hv2 := hv23.1
    have hv3 := hv23.2
    try simp (maxSteps := 2000000) only [↓RG, RP, RB, BEq.rfl, Int.reduceEq, Int.reduceLT, Int.reduceLE, Nat.reduceEqDiff, ha]
    refine s_book_Same_api_Pair (xs := L') (ys := L') hl2 ?_
    rw [decide_eq_true (rfl : L' = L')]
    try simp (maxSteps := 2000000) only [↓RG, RP, RB, BEq.rfl, Int.reduceEq, Int.reduceLT, Int.reduceLE, Nat.reduceEqDiff]
    refine s_view_Cells (b := q2) (s := vAll w' 96) fun u3 hu3 => ?_
    have h0 : decide (((vAll w' 96).l.cells.length : Int) = 0) = true := decide_eq_true rfl
    try simp (maxSteps := 2000000) only [↓RG, RP, RB, BEq.rfl, Int.reduceEq, Int.reduceLT, Int.reduceLE, Nat.reduceEqDiff, h0]
    refine ObjR_close (v2 := v2) (v3 := v3) b (p.1, L') rfl hv23 ?_
    exact (hK u hu hw').sub
  · rw [e1]
    have e4 := e4.symm
    have e5 := e5.symm
    subst e4
    subst e5
    try simp (maxSteps := 2000000) only [↓RG, RP, RB, BEq.rfl, Int.reduceEq, Int.reduceLT, Int.reduceLE, Nat.reduceEqDiff]
    refine G.new fun x2 => ?_
    have h256 : decide ((5 : Int) < (w.length : Int)) = true := decide_eq_true (by rw [hw.1]; omega)
    try simp (maxSteps := 2000000) only [↓RG, RP, RB, BEq.rfl, Int.reduceEq, Int.reduceLT, Int.reduceLE, Nat.reduceEqDiff, h256]
    have h5 : 5 < w.length := by rw [hw.1]; omega
    have e := elem_of h5
    have z5 : hOf w 5 = w[5] := by
      show w.getD 5 0 = _
      rw [List.getD_eq_getElem?_getD, List.getElem?_eq_getElem h5]; rfl
    rw [z5] at e2 e3
    generalize w[5] = z at e e2 e3
    have eA : IntKind.wrap .u64 (z + 40) = z + 40 := wu64 (by omega) (by omega)
    have eB : IntKind.wrap .u64 (w.length : Int) = 256 := by rw [hw.1]; decide
    have eC : decide ((256 : Int) < z + 40) = true := decide_eq_true e2
    have e0 : (5 : Int) = ((5 : Nat) : Int) := rfl
    rw [e0]
    try simp (maxSteps := 2000000) only [↓RG, RP, RB, BEq.rfl, Int.reduceEq, Int.reduceLT, Int.reduceLE, Nat.reduceEqDiff, eA, eB, eC]
    refine s_view_Cells (b := q) (s := vAll w 96) fun u3 hu3 => ?_
    have h0 : decide (((vAll w 96).l.cells.length : Int) = 0) = true := decide_eq_true rfl
    try simp (maxSteps := 2000000) only [↓RG, RP, RB, BEq.rfl, Int.reduceEq, Int.reduceLT, Int.reduceLE, Nat.reduceEqDiff, h0]
    refine s_view_Frees (b := q) (s := vAll w 96) (by show 0 ≤ _; omega) fun u4 hu4 => ?_
    have h1 : decide (((vAll w 96).l.frees.length : Int) = 0) = true := decide_eq_true rfl
    try simp (maxSteps := 2000000) only [↓RG, RP, RB, BEq.rfl, Int.reduceEq, Int.reduceLT, Int.reduceLE, Nat.reduceEqDiff, h1]
    refine s_view_Depth (b := q) (s := vAll w 96) ?_
    have hd : ((((vAll w 96).l.up.length + 1 : Nat)) : Int) = 1 := rfl
    rw [hd]
    try simp (maxSteps := 2000000) only [↓RG, RP, RB, BEq.rfl, Int.reduceEq, Int.reduceLT, Int.reduceLE, Nat.reduceEqDiff]
    exact (hK v hv hw).sub
end
end Go.Proofs.YtokbiojkpldfeaaGreat.S
