/-
  CHAPTER 18: the statements' own functions: cells laid over words, what rests given back, a step.
-/
import Derived.Test.YtokbiojkpldfeaaGreatObj
import Derived.Test.YtokbiojkpldfeaaGreatRefView
namespace Go.Proofs.YtokbiojkpldfeaaGreat.S
open Go Go.Proofs
set_option linter.unusedVariables false
set_option linter.unusedSimpArgs false

/-- the first words of a heap, behind them none -/
def bas (w : List Int) (j : Nat) : List Int := (List.range 256).map fun i => if i ≤ j then w.getD i 0 else 0
theorem bas_len {w : List Int} {j : Nat} : (bas w j).length = 256 := by simp [bas]
theorem bas_succ {w : List Int} {j : Nat} (h : j + 1 < 256) : (bas w j).set (j + 1) (w.getD (j + 1) 0) = bas w (j + 1) := by
  apply List.ext_getElem
  · simp [bas]
  · intro i h1 h2
    rw [List.getElem_set]
    simp only [bas, List.getElem_map, List.getElem_range]
    by_cases e : j + 1 = i
    · subst e; rw [if_pos rfl, if_pos (Nat.le_refl _)]
    · rw [if_neg e]
      by_cases e2 : i ≤ j
      · rw [if_pos e2, if_pos (by omega)]
      · rw [if_neg e2, if_neg (by omega)]
theorem bas_zero {w : List Int} (h : OkHp w) : bas w 0 = List.replicate 256 0 := by
  apply List.ext_getElem
  · rw [bas_len, List.length_replicate]
  · intro i h1 h2
    rw [List.getElem_replicate]
    simp only [bas, List.getElem_map, List.getElem_range]
    by_cases e : i ≤ 0
    · rw [if_pos e, show i = 0 by omega]; exact h.2
    · rw [if_neg e]
theorem bas_end {w : List Int} (h : OkHp w) : bas w 255 = w := by
  apply List.ext_getElem
  · rw [bas_len, h.1]
  · intro i h1 h2
    simp only [bas, List.getElem_map, List.getElem_range]
    rw [bas_len] at h1
    rw [if_pos (by omega), List.getD_eq_getElem?_getD, List.getElem?_eq_getElem h2]; rfl
theorem applyC_take {w : List Int} {cs : List TCell} {k : Nat} (hk : k < cs.length) : applyC w (cs.take (k + 1)) = (if 1 ≤ cs[k].place ∧ cs[k].place < ((applyC w (cs.take k)).length : Int) then (applyC w (cs.take k)).set cs[k].place.toNat cs[k].word else applyC w (cs.take k)) := by
  unfold applyC
  rw [List.take_add_one, List.getElem?_eq_getElem hk, List.foldl_append]
  rfl

section
variable {w0 : Base} {L M : List Asn} {K : KV} {F : World → Prop} {C : Asn → List Asn} {b : Nat} {n a x e k root : Int} {w : List Int} {v cv : Value} {cs : List TCell}

theorem s_ref21_Apply [r : Rd w0 L v wordE 1 w] [r2 : Rd w0 L cv tCellE 2 cs] (hw : OkHp w) (hl : cs.length ≤ 1000000) (hK : ∀ u, Cells u [u] → G w0 (sl wordE u (applyC w cs) :: L) (K u)) : G w0 L (CP Tryz.prog Fn.ref21_Apply [v, cv] K) := by
  refine C_ref21_Apply ?_
  unfold S_ref21_Apply
  try simp (maxSteps := 2000000) only [fuse_and, fuse_or, fuse_step, fuse_pair, fuse_in, andP_true]
  refine s_ref7_Whole (ws := w) (m := 0) (by rw [hw.1]; decide) fun q => ?_
  have ev : vAll w 0 = ⟨256, knW w 255, ⟨0, ⟨[], []⟩, []⟩, 0⟩ := by unfold vAll; rw [hw.1]; rfl
  rw [ev, RViewR_open]
  intro vk lp hvk
  have hv1 := hvk.1
  try simp (maxSteps := 2000000) only [↓RG, RP, RB, BEq.rfl, Int.reduceEq, Int.reduceLT, Int.reduceLE, Nat.reduceEqDiff]
  refine G.make (n := 256) wordE 0 rfl (by simp [maxLen]) (by omega) fun u hu => ?_
  refine G.loop1 (σ := Nat) (fun j => i64 j) (fun j => sl wordE u (bas w j) :: own q [i64 256, vk, ptr lp 0, i64 0] :: sl tCellE vk (knW w 255) :: ob RLevelsR lp ⟨0, ⟨[], []⟩, []⟩ :: L) (fun j => j ≤ 255) (fun j => 255 - j) 0 rfl (by rw [bas_zero hw]; rfl) (by omega) ?_
  intro j hj J hJ
  have hkl : (knW w 255).length = 255 := knW_len
  by_cases h1 : j < 255
  · have h2 : decide ((j : Int) < ((knW w 255).length : Int)) = true := decide_eq_true (by rw [hkl]; omega)
    have e := elem_of (xs := knW w 255) (k := j) (by rw [hkl]; exact h1)
    have ek : (knW w 255)[j]'(by rw [hkl]; exact h1) = ⟨(j : Int) + 1, w.getD (j + 1) 0⟩ := by simp [knW]
    rw [ek] at e
    have e2 := elem_of (xs := bas w j) (k := j + 1) (by rw [bas_len]; omega)
    have ej : ((j : Int) + 1) = ((j + 1 : Nat) : Int) := by omega
    rw [ej] at e
    try simp (maxSteps := 2000000) only [↓RG, RP, RB, BEq.rfl, Int.reduceEq, Int.reduceLT, Int.reduceLE, Nat.reduceEqDiff, h2]
    refine G.drew ?_
    try simp (maxSteps := 2000000) only [↓RG, RP, RB, BEq.rfl, Int.reduceEq, Int.reduceLT, Int.reduceLE, Nat.reduceEqDiff, h2]
    rw [wsucc (by omega), bas_succ (by omega)]
    exact hJ (j + 1) (by omega) (by omega)
  · have hj2 : j = 255 := by omega
    subst hj2
    have h2 : decide (((255 : Nat) : Int) < ((knW w 255).length : Int)) = false := decide_eq_false (by rw [hkl]; omega)
    try simp (maxSteps := 2000000) only [↓RG, RP, RB, BEq.rfl, Int.reduceEq, Int.reduceLT, Int.reduceLE, Nat.reduceEqDiff, h2]
    rw [bas_end hw]
    refine RViewR_close (vk := vk) q lp ⟨256, knW w 255, ⟨0, ⟨[], []⟩, []⟩, 0⟩ hvk ?_
    refine G.pickAll (As := [sl wordE u w, ob RViewR q ⟨256, knW w 255, ⟨0, ⟨[], []⟩, []⟩, 0⟩]) ?_
    show G w0 (sl wordE u w :: ob RViewR q ⟨256, knW w 255, ⟨0, ⟨[], []⟩, []⟩, 0⟩ :: L) _
    refine G.loop1 (σ := Nat) (fun j => i64 j) (fun j => sl wordE u (applyC w (cs.take j)) :: ob RViewR q ⟨256, knW w 255, ⟨0, ⟨[], []⟩, []⟩, 0⟩ :: L) (fun j => j ≤ cs.length) (fun j => cs.length - j) 0 rfl rfl (by omega) ?_
    intro j hj J hJ
    by_cases h1 : j < cs.length
    · have h2 : decide ((j : Int) < (cs.length : Int)) = true := decide_eq_true (by omega)
      have e := elem_of h1
      have hn := hJ (j + 1) h1 (by omega)
      rw [applyC_take h1] at hn
      have hlen : (applyC w (cs.take j)).length = 256 := by rw [applyC_len, hw.1]
      generalize hc : cs[j] = c at e hn
      generalize applyC w (cs.take j) = w1 at hn hlen
      obtain ⟨cp, cx⟩ := c
      simp only at hn
      try simp (maxSteps := 2000000) only [↓RG, RP, RB, BEq.rfl, Int.reduceEq, Int.reduceLT, Int.reduceLE, Nat.reduceEqDiff, h2]
      refine s_ref7_View_In (s := ⟨256, knW w 255, ⟨0, ⟨[], []⟩, []⟩, 0⟩) ?_
      by_cases h3 : 1 ≤ cp ∧ cp < 256
      · have ei : isV ⟨256, knW w 255, ⟨0, ⟨[], []⟩, []⟩, 0⟩ cp = true := by simp [isV]; omega
        rw [if_pos (by rw [hlen]; omega)] at hn
        rw [ei]
        obtain ⟨m, rfl⟩ : ∃ m : Nat, cp = m := ⟨cp.toNat, by omega⟩
        have e3 := elem_of (xs := w1) (k := m) (by rw [hlen]; omega)
        rw [Int.toNat_natCast] at hn
        repeat' (first | (with_reducible refine G.joini0 ?_) | (with_reducible refine G.joini1 ?_) | (with_reducible refine G.drew ?_) | (simp (maxSteps := 2000000) only [↓RG, RP, RB, BEq.rfl, Int.reduceEq, Int.reduceLT, Int.reduceLE, Nat.reduceEqDiff]))
        rw [wsucc (by omega)]
        exact hn
      · have ei : isV ⟨256, knW w 255, ⟨0, ⟨[], []⟩, []⟩, 0⟩ cp = false := by simp [isV]; omega
        rw [if_neg (by rw [hlen]; omega)] at hn
        rw [ei]
        repeat' (first | (with_reducible refine G.joini0 ?_) | (with_reducible refine G.joini1 ?_) | (with_reducible refine G.drew ?_) | (simp (maxSteps := 2000000) only [↓RG, RP, RB, BEq.rfl, Int.reduceEq, Int.reduceLT, Int.reduceLE, Nat.reduceEqDiff]))
        rw [wsucc (by omega)]
        exact hn
    · have h2 : decide ((j : Int) < (cs.length : Int)) = false := decide_eq_false (by omega)
      have hj2 : cs.take j = cs := List.take_of_length_le (by omega)
      rw [hj2]
      try simp (maxSteps := 2000000) only [↓RG, RP, RB, BEq.rfl, Int.reduceEq, Int.reduceLT, Int.reduceLE, Nat.reduceEqDiff, h2]
      exact (hK u hu).sub

/-! ### all that is there -/
theorem s_law18_all {s : VwS} [i : SelOb L ViewR b s C] (h1 : s.l.r.f.length ≤ 1000) (h2 : (tAll s root).1.l.r.f.length ≤ 1000) (hK : ∀ u, Cells u [u] → G w0 (sl tPairE u (lAll s root).2.1 :: C (ob ViewR b (lAll s root).1)) (K (.tuple #[u, i64 (lAll s root).2.2]))) : G w0 L (CP Tryz.prog Fn.law18_all [ptr b 0, i64 root] K) := by
  refine i.useNM (P := fun u => Cells u [u]) (N := fun u => sl tPairE u (lAll s root).2.1) (A' := fun _ => ob ViewR b (lAll s root).1) (F' := fun u => K (.tuple #[u, i64 (lAll s root).2.2])) (fun M hM hK => ?_) hK
  refine C_law18_all ?_
  unfold S_law18_all
  try simp (maxSteps := 2000000) only [fuse_and, fuse_or, fuse_step, fuse_pair, fuse_in, andP_true]
  refine s_table_All (s := s) h1 fun u hu => ?_
  unfold lAll at hK
  generalize tAll s root = q at hK h2
  obtain ⟨s1, l, e⟩ := q
  simp only at hK h2 ⊢
  try simp (maxSteps := 2000000) only [↓RG, RP, RB, BEq.rfl, Int.reduceEq, Int.reduceLT, Int.reduceLE, Nat.reduceEqDiff]
  refine s_table_Len (s := s1) h2 ?_
  generalize tLen s1 root = q at hK
  obtain ⟨s2, n, f⟩ := q
  simp only at hK ⊢
  by_cases g1 : f = e
  · by_cases g2 : n = (l.length : Int)
    · rw [if_pos ⟨g1, g2⟩] at hK
      have g3 : decide (n = (l.length : Int)) = true := decide_eq_true g2
      try simp (maxSteps := 2000000) only [↓RG, RP, RB, BEq.rfl, Int.reduceEq, Int.reduceLT, Int.reduceLE, Nat.reduceEqDiff, eq_true g1, g3]
      exact hK u hu
    · rw [if_neg (fun h => g2 h.2)] at hK
      have g3 : decide (n = (l.length : Int)) = false := decide_eq_false g2
      try simp (maxSteps := 2000000) only [↓RG, RP, RB, BEq.rfl, Int.reduceEq, Int.reduceLT, Int.reduceLE, Nat.reduceEqDiff, eq_true g1, g3]
      refine G.nilsl tPairE ?_
      exact (hK (.slice none 0 0) cells_slice).sub
  · rw [if_neg (fun h => g1 h.1)] at hK
    try simp (maxSteps := 2000000) only [↓RG, RP, RB, BEq.rfl, Int.reduceEq, Int.reduceLT, Int.reduceLE, Nat.reduceEqDiff, g1]
    refine G.nilsl tPairE ?_
    exact (hK (.slice none 0 0) cells_slice).sub

/-! ### what rests is given back -/
theorem aGive_up {s : VwS} {n : Int} : (aGive s n).1.l.up = s.l.up := by
  unfold aGive aGiveIn
  split
  · split
    · rw [aAsked_l]
    · split
      · rw [vTake_up, vRead_l, aAsked_l]
      · simp only; rw [vRead_l, aAsked_l]
  · simp only; rw [aAsked_l]
theorem cells_r {s : LvS} (h : s.up = []) : s.cells = s.r.c := by unfold LvS.cells; rw [h]; rfl

theorem s_law18_settle {s : VwS} {w' : List Int} [i : SelOb L ViewR b s C] [r : Rd w0 L v wordE 1 w] (hw : OkHp w) (hup : s.l.up = []) (hf : s.l.r.f.length ≤ 1000) (hO : OkHp (applyC w s.l.r.c)) (hS : settleM (applyC w s.l.r.c) s.l.r.f = (w', true))
    (hK : ∀ u, Cells u [u] → OkHp w' → G w0 (sl wordE u w' :: L) (K (.tuple #[u, .bool true]))) : G w0 L (CP Tryz.prog Fn.law18_settle [v, ptr b 0] K) := by
  refine C_law18_settle ?_
  unfold S_law18_settle
  try simp (maxSteps := 2000000) only [fuse_and, fuse_or, fuse_step, fuse_pair, fuse_in, andP_true]
  refine G.okV (b := b) (s := s) fun _ hl => ?_
  have hcl := cells_le hl
  refine s_view_Cells (b := b) (s := s) fun u1 hu1 => ?_
  refine s_ref21_Apply (w := w) (cs := s.l.cells) hw (by omega) fun u2 hu2 => ?_
  rw [cells_r hup]
  have hfr : s.l.frees = s.l.r.f := frees_one hup
  refine s_view_Frees (b := b) (s := s) (by rw [hfr]; omega) fun u3 hu3 => ?_
  rw [hfr]
  generalize s.l.r.f = f at hf hS
  generalize applyC w s.l.r.c = w1 at hO hS
  refine G.sub (L' := sl wordE u2 w1 :: sl intE u3 f :: L) ?_
  refine G.loop2 (σ := Value × List Int × Nat) (fun z => z.1) (fun z => i64 z.2.2) (fun z => sl wordE z.1 z.2.1 :: sl intE u3 f :: L) (fun z => z.2.2 ≤ f.length ∧ Cells z.1 [z.1] ∧ OkHp z.2.1 ∧ settleM z.2.1 (f.drop z.2.2) = (w', true)) (fun z => f.length - z.2.2) (u2, w1, 0) rfl rfl rfl ⟨by simp, hu2, hO, hS⟩ ?_
  rintro ⟨u, z, j⟩ ⟨hj, hu, hz, hst⟩ J hJ
  simp only at hj hu hz hst hJ ⊢
  by_cases h1 : j < f.length
  · have h2 : decide ((j : Int) < (f.length : Int)) = true := decide_eq_true (by omega)
    have e := elem_of h1
    rw [List.drop_eq_getElem_cons h1] at hst
    generalize f[j] = bb at e hst
    unfold settleM at hst
    by_cases h3 : (aGive (vAll z 96) bb).2 = 0
    · rw [if_pos h3] at hst
      try simp (maxSteps := 2000000) only [↓RG, RP, RB, BEq.rfl, Int.reduceEq, Int.reduceLT, Int.reduceLE, Nat.reduceEqDiff, h2]
      refine s_view_Whole (ws := z) (m := 96) (by rw [hz.1]; decide) fun c => ?_
      try simp (maxSteps := 2000000) only [↓RG, RP, RB, BEq.rfl, Int.reduceEq, Int.reduceLT, Int.reduceLE, Nat.reduceEqDiff]
      refine s_arena_Give (b := c) (s := vAll z 96) ?_
      rw [h3]
      try simp (maxSteps := 2000000) only [↓RG, RP, RB, BEq.rfl, Int.reduceEq, Int.reduceLT, Int.reduceLE, Nat.reduceEqDiff]
      have hup2 : (aGive (vAll z 96) bb).1.l.up = [] := by rw [aGive_up]; rfl
      generalize (aGive (vAll z 96) bb).1 = s2 at hst hup2
      refine G.okV (b := c) (s := s2) fun hv2 hl2 => ?_
      have hcl2 := cells_le hl2
      have hok := (hl2.ok s2.l.r (by simp)).places
      refine s_view_Cells (b := c) (s := s2) fun u4 hu4 => ?_
      refine s_ref21_Apply (w := z) (cs := s2.l.cells) hz (by omega) fun u5 hu5 => ?_
      rw [cells_r hup2]
      try simp (maxSteps := 2000000) only [↓RG, RP, RB, BEq.rfl, Int.reduceEq, Int.reduceLT, Int.reduceLE, Nat.reduceEqDiff]
      rw [wsucc (by omega)]
      exact (hJ (u5, applyC z s2.l.r.c, j + 1) ⟨h1, hu5, hz.apply fun c hc => (okAt_iff.1 (hok c hc)).1, hst⟩ (by simp only; omega)).sub
    · rw [if_neg h3] at hst
      cases hst
  · have h2 : decide ((j : Int) < (f.length : Int)) = false := decide_eq_false (by omega)
    rw [List.drop_eq_nil_of_le (by omega)] at hst
    have e : z = w' := congrArg Prod.fst hst
    subst e
    try simp (maxSteps := 2000000) only [↓RG, RP, RB, BEq.rfl, Int.reduceEq, Int.reduceLT, Int.reduceLE, Nat.reduceEqDiff, h2]
    exact (hK u hu hz).sub
end
end Go.Proofs.YtokbiojkpldfeaaGreat.S
