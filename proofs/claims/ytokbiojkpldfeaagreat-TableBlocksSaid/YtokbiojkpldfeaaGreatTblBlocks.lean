/-
  CHAPTER 18: TableBlocks.
-/
import Derived.Test.YtokbiojkpldfeaaGreatLists
import Derived.Test.YtokbiojkpldfeaaGreatStep
namespace Go.Proofs.YtokbiojkpldfeaaGreat.S
open Go Go.Proofs
set_option linter.unusedVariables false
set_option linter.unusedSimpArgs false

/-- a call of this chapter's, on one of its two objects -/
abbrev m0 (c : TCall) (r : Int) : TCall := ⟨within c.what 4 6, r, c.k, c.x⟩
theorem m0_which (c : TCall) (r : Int) : cWhich (m0 c r) = 4 ∨ cWhich (m0 c r) = 5 ∨ cWhich (m0 c r) = 6 := by
  unfold cWhich m0 within
  simp only
  split <;> omega
theorem m0_sort (c : TCall) (r : Int) : cSort (cWhich (m0 c r)) = 1 := by
  unfold cSort
  rw [if_pos (m0_which c r)]
theorem m0_place (c : TCall) (r : Int) : cPlace (m0 c r) = 2 + r % 2 := by
  unfold cPlace
  rw [m0_sort]
  show 2 * 1 + (0 + r % (1 - 0 + 1)) = _
  omega
theorem good_call {x : TCall} (h : good TCallK (tCallE.enc x)) : 0 ≤ x.k := (inK_u64 h.2.2.2.2.2.1).1

theorem obB_len {h : Hp} {r : Int} {o : Option TD} {L : List TPair} (hr : Rows (ndO o) L) : ((obB o).length : Int) ≤ 2 * (L.length : Int) + 2 := by
  have h1 := hr.2.length_eq
  unfold prs at h1
  rw [List.length_map] at h1
  cases o with
  | none => simp [obB]; omega
  | some t =>
    have e : (obB (some t)).length = (ndO (some t)).length + 2 := by simp only [obB, TD.blks, ndB, ndO, List.length_cons, List.length_map]
    omega
theorem Inv.len {w : List Int} {r r' : Int} {o o2 : Option TD} {L L2 : List TPair} (I : Inv w r r' o o2 L L2) : L.length ≤ 12 := by
  have h1 := rows_few I.l1 (tab_keys I.t1) I.k1
  have h2 := I.l1.2.length_eq
  unfold prs at h2
  rw [List.length_map] at h2
  omega

section
variable {w0 : Base} {L M : List Asn} {K : KV} {F : World → Prop} {C : Asn → List Asn} {b : Nat}
/-- new objects -/
theorem G.newObj (h : ∀ b, G w0 (ob ObjR b ([], []) :: L) (K (ptr b 0))) : G w0 L (boxW (.agg #[.slice none 0 0, .slice none 0 0, .slice none 0 0, .slice none 0 0, .slice none 0 0, .slice none 0 0, .slice none 0 0, .slice none 0 0]) K) := by
  refine G.box (cs := [.slice none 0 0, .slice none 0 0, .slice none 0 0, .slice none 0 0, .slice none 0 0, .slice none 0 0, .slice none 0 0, .slice none 0 0]) fun b => ?_
  refine G.nilsl tPairE ?_
  refine G.nilsl tPairE ?_
  refine ObjR_close (v2 := .slice none 0 0) (v3 := .slice none 0 0) b ([], []) rfl ⟨cells_slice, cells_slice⟩ ?_
  exact h b

set_option maxHeartbeats 1000000 in
theorem s_law18_TableBlocks {l : Value} {qs : List TCall} {a : Int} [r : Arg w0 l tCallE qs] (hr0 : ∀ x ∈ qs, good TCallK (tCallE.enc x)) (hn1 : inK .u8 a) (hK : G w0 L (K (.bool true))) : G w0 L (CP Tryz.prog Fn.law18_TableBlocks [l, .int .u8 a] K) := by
  have ha := inK_u8 hn1
  refine C_law18_TableBlocks ?_
  unfold S_law18_TableBlocks
  try simp (maxSteps := 2000000) only [fuse_and, fuse_or, fuse_step, fuse_pair, fuse_in, andP_true]
  refine s_law18_TableRuns ?_
  try simp (maxSteps := 2000000) only [↓RG, RP, RB, BEq.rfl, Int.reduceEq, Int.reduceLT, Int.reduceLE, Nat.reduceEqDiff]
  refine s_arena_Fresh fun u hu => ?_
  try simp (maxSteps := 2000000) only [↓RG, RP, RB, BEq.rfl, Int.reduceEq, Int.reduceLT, Int.reduceLE, Nat.reduceEqDiff]
  refine G.newObj fun b => ?_
  refine G.loop2 (σ := Value × Nat × List Int × List TPair) (fun z => z.1) (fun z => i64 z.2.1) (fun z => ob ObjR b (z.2.2.2, []) :: sl wordE z.1 z.2.2.1 :: L) (fun z => Cells z.1 [z.1] ∧ z.2.1 ≤ 3 ∧ ∃ o, Inv z.2.2.1 8 9 o none z.2.2.2 []) (fun z => 3 - z.2.1) (u, 0, fresh 256, []) rfl rfl rfl ⟨hu, by simp, none, fresh_ok⟩ ?_
  rintro ⟨u, k, w, P⟩ ⟨hu, hk, I⟩ J hJ
  simp only at hu hk I hJ ⊢
  have hm3 : 0 ≤ a.tmod 3 ∧ a.tmod 3 < 3 := ⟨Int.tmod_nonneg 3 ha.1, Int.tmod_lt_of_pos a (by decide)⟩
  have e3 : IntKind.wrap .i64 (a.tmod 3) = a.tmod 3 := wi64 (by omega) (by omega)
  try simp (maxSteps := 2000000) only [↓RG, RP, RB, BEq.rfl, Int.reduceEq, Int.reduceLT, Int.reduceLE, Nat.reduceEqDiff, e3]
  refine G.cond (fun g => ?_) (fun g => hK.sub)
  have hk2 : k ≤ 2 := by simp at g; omega
  have hw := I.choose_spec.ok
  refine G.loop2 (σ := Value × Nat × List Int × List TPair) (fun z => z.1) (fun z => i64 z.2.1) (fun z => ob ObjR b (z.2.2.2, []) :: sl wordE z.1 z.2.2.1 :: L) (fun z => Cells z.1 [z.1] ∧ z.2.1 ≤ 20 ∧ ∃ o, Inv z.2.2.1 8 9 o none z.2.2.2 []) (fun z => 20 - z.2.1) (u, 0, w, P) rfl rfl rfl ⟨hu, by simp, I⟩ ?_
  rintro ⟨u, j, w, P⟩ ⟨hu, hj, o, I⟩ J2 hJ2
  simp only at hu hj I hJ2 ⊢
  by_cases g1 : j < qs.length ∧ j < 20
  · have g2 : decide ((j : Int) < (qs.length : Int)) = true := decide_eq_true (by omega)
    have g3 : decide ((j : Int) < 20) = true := decide_eq_true (by omega)
    have e := elem_of g1.1
    have hgood := good_call (hr0 qs[j] (List.getElem_mem g1.1))
    generalize qs[j] = c at e hgood
    try simp (maxSteps := 2000000) only [↓RG, RP, RB, BEq.rfl, Int.reduceEq, Int.reduceLT, Int.reduceLE, Nat.reduceEqDiff, g2, g3]
    refine s_law18_mine (v := .agg (TCall.cells c).toArray) (c := c) ?_
    try simp (maxSteps := 2000000) only [↓RG, RP, RB, BEq.rfl, Int.reduceEq, Int.reduceLT, Int.reduceLE, Nat.reduceEqDiff]
    refine G.new fun x21 => ?_
    try simp (maxSteps := 2000000) only [↓RG, RP, RB, BEq.rfl, Int.reduceEq, Int.reduceLT, Int.reduceLE, Nat.reduceEqDiff]
    obtain ⟨w', o', L', hS, I'⟩ := step_ok (c := m0 c 0) I ⟨by omega, by omega⟩ ⟨by omega, by omega⟩ (by omega) hgood
    have hl := I.len
    have hl' := I'.len
    refine G.pickAll (As := [ob ObjR b (P, []), sl wordE u w]) ?_
    show G w0 (ob ObjR b (P, []) :: sl wordE u w :: own x21 [i64 (within c.what 4 6), i64 0, u64 c.k, u64 c.x] :: L) _
    refine s_step_2 (p := (P, [])) (c := m0 c 0) hu I.ok (m0_place c 0) (m0_which c 0) (by simp only; omega) (by omega) hS fun u2 hu2 hw2 => ?_
    try simp (maxSteps := 2000000) only [↓RG, RP, RB, BEq.rfl, Int.reduceEq, Int.reduceLT, Int.reduceLE, Nat.reduceEqDiff]
    refine G.drew ?_
    try simp (maxSteps := 2000000) only [↓RG, RP, RB, BEq.rfl, Int.reduceEq, Int.reduceLT, Int.reduceLE, Nat.reduceEqDiff]
    refine s_keep_Call_Place (v := .agg (TCall.cells (m0 c 0)).toArray) (c := m0 c 0) ?_
    have ep : cPlace (m0 c 0) = 2 := m0_place c 0
    rw [ep]
    have ha2 : ∀ {L : List Asn} {K : KV}, G w0 L (idxArrW 8 1 (ptr b 0) (i64 2) K) = G w0 L (K (ptr b 2)) := G_aidx (k := 2) rfl (by decide)
    rw [ObjR_open]
    intro v2 v3 hv
    have hv2 := hv.1
    have hv3 := hv.2
    try simp (maxSteps := 2000000) only [↓RG, RP, RB, BEq.rfl, Int.reduceEq, Int.reduceLT, Int.reduceLE, Nat.reduceEqDiff, ha2]
    obtain ⟨sh, fl, A⟩ := I'.ar
    refine s_arena_Lists hw2 A fun u3 => ?_
    try simp (maxSteps := 2000000) only [↓RG, RP, RB, BEq.rfl, Int.reduceEq, Int.reduceLT, Int.reduceLE, Nat.reduceEqDiff]
    refine s_law18_live hw2 A ?_
    have hB := obB_len I'.l1 (h := hOf w') (r := 8)
    have hB2 : (obB o' ++ obB none).length = (obB o').length := by simp [obB]
    rw [hB2]
    have e1 : IntKind.wrap .i64 (2 * (L'.length : Int)) = 2 * (L'.length : Int) := wi64 (by omega) (by omega)
    have e2 : IntKind.wrap .i64 (2 * (L'.length : Int) + 2) = 2 * (L'.length : Int) + 2 := wi64 (by omega) (by omega)
    have e4 : decide (2 * (L'.length : Int) + 2 < ((obB o').length : Int)) = false := decide_eq_false (by omega)
    try simp (maxSteps := 2000000) only [↓RG, RP, RB, BEq.rfl, Int.reduceEq, Int.reduceLT, Int.reduceLE, Nat.reduceEqDiff, e1, e2, e4]
    rw [wsucc (by omega)]
    refine ObjR_close (v2 := v2) (v3 := v3) b (L', []) rfl hv ?_
    exact (hJ2 (u2, j + 1, w', L') ⟨hu2, by simp only; omega, o', I'⟩ (by simp only; omega)).sub
  · have hb : (decide ((j : Int) < (qs.length : Int)) = true ∧ decide ((j : Int) < 20) = false) ∨ decide ((j : Int) < (qs.length : Int)) = false := by
      by_cases h1 : j < qs.length
      · exact .inl ⟨decide_eq_true (by omega), decide_eq_false (by omega)⟩
      · exact .inr (decide_eq_false (by omega))
    have hfin := hJ (u, k + 1, w, P) ⟨hu, by simp only; omega, o, I⟩ (by simp only; omega)
    rcases hb with ⟨g2, g3⟩ | g2
    · try simp (maxSteps := 2000000) only [↓RG, RP, RB, BEq.rfl, Int.reduceEq, Int.reduceLT, Int.reduceLE, Nat.reduceEqDiff, g2, g3]
      rw [wsucc (by omega)]
      exact hfin
    · try simp (maxSteps := 2000000) only [↓RG, RP, RB, BEq.rfl, Int.reduceEq, Int.reduceLT, Int.reduceLE, Nat.reduceEqDiff, g2]
      rw [wsucc (by omega)]
      exact hfin
end
end Go.Proofs.YtokbiojkpldfeaaGreat.S
