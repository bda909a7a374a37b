/-
  CHAPTER 18: TableRuns: a closed run.
-/
import Derived.Test.YtokbiojkpldfeaaGreatTableF
namespace Go.Proofs.YtokbiojkpldfeaaGreat.S
open Go Go.Proofs
set_option linter.unusedVariables false
set_option linter.unusedSimpArgs false

/-- a fresh heap -/
def fresh (n : Int) : List Int := (List.replicate (held n 32 256).toNat (0 : Int)).set 5 14

section
variable {w0 : Base} {L M : List Asn} {K : KV} {F : World → Prop} {C : Asn → List Asn} {b : Nat} {s : VwS} {n a x e w k root : Int}

theorem s_arena_Fresh (hK : ∀ v, Cells v [v] → G w0 (sl wordE v (fresh n) :: L) (K v)) : G w0 L (CP Tryz.prog Fn.arena_Fresh [i64 n] K) := by
  have hb := held_le (n := n) (show (32 : Int) ≤ 256 by omega)
  have e3 : (if (if (256 : Int) < n then (256 : Int) else n) > 32 then (if (256 : Int) < n then (256 : Int) else n) else 32) = ((held n 32 256).toNat : Int) := by
    unfold held; split <;> split <;> split <;> (try split) <;> omega
  refine C_arena_Fresh ?_
  unfold S_arena_Fresh
  unfold fresh at hK
  try simp (maxSteps := 2000000) only [↓RG, RP, RB, BEq.rfl, Int.reduceEq, Int.reduceLT, Int.reduceLE, Nat.reduceEqDiff]
  rw [e3]
  have hb2 : 32 ≤ (held n 32 256).toNat ∧ (held n 32 256).toNat ≤ 256 := by omega
  generalize (held n 32 256).toNat = m at hK hb2
  refine G.make wordE 0 rfl (by simp only [maxLen]; omega) (by omega) fun v hv => ?_
  have e := elem_of (xs := List.replicate m (0 : Int)) (k := 5) (by simp; omega)
  have e0 : (5 : Int) = ((5 : Nat) : Int) := rfl
  rw [e0]
  try simp (maxSteps := 2000000) only [↓RG, RP, RB, BEq.rfl, Int.reduceEq, Int.reduceLT, Int.reduceLE, Nat.reduceEqDiff]
  exact hK v hv

/-! ### the run -/
def run0 : VwS := vAll (fresh 100) 96
abbrev run1 (s0 : VwS) : VwS := (tPut s0 6 9 1).1
abbrev run2 (s0 : VwS) : VwS := (tPut (run1 s0) 6 9 2).1
abbrev run3 (s0 : VwS) : VwS := (tGet (run2 s0) 6 9).1
def runRes (run0 : VwS) : Bool :=
  decide ((tPut run0 6 9 1).2 = (true, 0)) && decide ((tPut (run1 run0) 6 9 2).2 = (false, 0)) && decide ((tGet (run2 run0) 6 9).2 = (2, true, 0)) && decide ((dEnd (run3 run0) (tAll1 6 (dr0 (run3 run0))).1).2 = 0) && decide ((tAll1 6 (dr0 (run3 run0))).2 = [⟨9, 2⟩]) &&
  decide (run0.l.r.f.length ≤ 1000) && decide ((run1 run0).l.r.f.length ≤ 1000) && decide ((run2 run0).l.r.f.length ≤ 1000) && decide ((run3 run0).l.r.f.length ≤ 1000) && decide ((tAll (run3 run0) 6).1.l.r.f.length ≤ 1000)
end
set_option maxRecDepth 100000 in
theorem runRes_true : runRes run0 = true := by decide +kernel

section
variable {w0 : Base} {L M : List Asn} {K : KV} {F : World → Prop} {C : Asn → List Asn} {b : Nat} {s : VwS} {n a x e w k root : Int}
theorem sortP_one (p : TPair) : sortP [p] = [p] := List.perm_singleton.1 (sortP_perm [p])

theorem run_facts {s0 : VwS} (hr : runRes s0 = true) : ∃ s1 s2 s3 s4, tPut s0 6 9 1 = (s1, true, 0) ∧ tPut s1 6 9 2 = (s2, false, 0) ∧ tGet s2 6 9 = (s3, 2, true, 0) ∧ tAll s3 6 = (s4, [⟨9, 2⟩], 0) ∧ s0.l.r.f.length ≤ 1000 ∧ s1.l.r.f.length ≤ 1000 ∧ s2.l.r.f.length ≤ 1000 ∧ s3.l.r.f.length ≤ 1000 ∧ s4.l.r.f.length ≤ 1000 := by
  unfold runRes at hr
  simp only [Bool.and_eq_true, decide_eq_true_eq] at hr
  obtain ⟨⟨⟨⟨⟨⟨⟨⟨⟨r1, r2⟩, r3⟩, r4⟩, r5⟩, l0⟩, l1⟩, l2⟩, l3⟩, l4⟩ := hr
  refine ⟨run1 s0, run2 s0, run3 s0, (tAll (run3 s0) 6).1, Prod.ext rfl r1, Prod.ext rfl r2, Prod.ext rfl r3, ?_, l0, l1, l2, l3, l4⟩
  refine Prod.ext rfl ?_
  show (tAll (run3 s0) 6).2 = ([⟨9, 2⟩], 0)
  unfold tAll
  rw [if_neg (by decide), if_pos r4, r5, sortP_one]

theorem s_law18_TableRuns (hK : G w0 L (K (.bool true))) : G w0 L (CP Tryz.prog Fn.law18_TableRuns [] K) := by
  obtain ⟨s1, s2, s3, s4, e1, e2, e3, e4, l0, l1, l2, l3, l4⟩ := run_facts runRes_true
  refine C_law18_TableRuns ?_
  unfold S_law18_TableRuns
  refine s_arena_Fresh fun v hv => ?_
  refine s_view_Whole (ws := fresh 100) (m := 96) (by decide) fun b => ?_
  change G w0 (ob ViewR b run0 :: _) _
  generalize run0 = s0 at e1 l0 ⊢
  try simp (maxSteps := 2000000) only [↓RG, RP, RB, BEq.rfl, Int.reduceEq, Int.reduceLT, Int.reduceLE, Nat.reduceEqDiff]
  refine s_table_Put (s := s0) l0 ?_
  rw [e1]
  simp only
  try simp (maxSteps := 2000000) only [↓RG, RP, RB, BEq.rfl, Int.reduceEq, Int.reduceLT, Int.reduceLE, Nat.reduceEqDiff]
  refine s_table_Put (s := s1) l1 ?_
  rw [e2]
  simp only
  try simp (maxSteps := 2000000) only [↓RG, RP, RB, BEq.rfl, Int.reduceEq, Int.reduceLT, Int.reduceLE, Nat.reduceEqDiff]
  refine s_table_Get (s := s2) l2 ?_
  rw [e3]
  simp only
  try simp (maxSteps := 2000000) only [↓RG, RP, RB, BEq.rfl, Int.reduceEq, Int.reduceLT, Int.reduceLE, Nat.reduceEqDiff]
  refine s_table_All (s := s3) l3 fun u hu => ?_
  rw [e4]
  simp only
  try simp (maxSteps := 2000000) only [↓RG, RP, RB, BEq.rfl, Int.reduceEq, Int.reduceLT, Int.reduceLE, Nat.reduceEqDiff]
  refine s_table_Get (s := s4) l4 ?_
  have e5 : tGet s4 5 9 = (s4, 0, false, 2) := by unfold tGet; rw [if_pos (by decide)]
  rw [e5]
  simp only
  try simp (maxSteps := 2000000) only [↓RG, RP, RB, BEq.rfl, Int.reduceEq, Int.reduceLT, Int.reduceLE, Nat.reduceEqDiff]
  have e6 : decide (((([⟨9, 2⟩] : List TPair).length : Nat) : Int) = 1) = true := by decide
  have e7 := elem_of (xs := [(⟨9, 2⟩ : TPair)]) (k := 0) (by simp)
  try simp (maxSteps := 2000000) only [↓RG, RP, RB, BEq.rfl, Int.reduceEq, Int.reduceLT, Int.reduceLE, Nat.reduceEqDiff, e6]
  have e8 : (decide ((([(⟨9, 2⟩ : TPair)] : List TPair)[0]'(by simp)).key = 9) && decide ((([(⟨9, 2⟩ : TPair)] : List TPair)[0]'(by simp)).val = 2)) = true := by decide
  try simp (maxSteps := 2000000) only [↓RG, RP, RB, BEq.rfl, Int.reduceEq, Int.reduceLT, Int.reduceLE, Nat.reduceEqDiff, e8]
  exact hK.sub
end
end Go.Proofs.YtokbiojkpldfeaaGreat.S
