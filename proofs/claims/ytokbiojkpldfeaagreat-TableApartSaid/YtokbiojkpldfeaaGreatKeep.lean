/-
  quietuskeep: calls of containers, and plain objects.
-/
import Derived.Test.YtokbiojkpldfeaaGreatBook
import Derived.Test.YtokbiojkpldfeaaGreatArr
import Derived.Test.YtokbiojkpldfeaaGreatTableRuns
namespace Go.Proofs.YtokbiojkpldfeaaGreat.S
open Go Go.Proofs
set_option linter.unusedVariables false
set_option linter.unusedSimpArgs false

def cWhich (c : TCall) : Int := if 1 ≤ c.what ∧ c.what ≤ 12 then c.what else within c.what 1 12
def cKey (c : TCall) : Int := c.k.tmod 12
def cVal (c : TCall) : Int := c.x.tmod 12

section
variable {w0 : Base} {L M : List Asn} {K : KV} {F : World → Prop} {C : Asn → List Asn} {b : Nat} {n a x e w k root : Int}

theorem s_keep_Call_Key {v : Value} {c : TCall} [i : Cells v (TCall.cells c)] (hK : G w0 L (K (u64 (cKey c)))) : G w0 L (CP Tryz.prog Fn.keep_Call_Key [v] K) := by
  refine C_keep_Call_Key ?_
  unfold S_keep_Call_Key
  unfold cKey at hK
  refine G.box fun x1 => ?_
  try simp (maxSteps := 2000000) only [↓RG, RP, RB, BEq.rfl, Int.reduceEq, Int.reduceLT, Int.reduceLE, Nat.reduceEqDiff]
  exact hK.drop
theorem s_keep_Call_Val {v : Value} {c : TCall} [i : Cells v (TCall.cells c)] (hK : G w0 L (K (u64 (cVal c)))) : G w0 L (CP Tryz.prog Fn.keep_Call_Val [v] K) := by
  refine C_keep_Call_Val ?_
  unfold S_keep_Call_Val
  unfold cVal at hK
  refine G.box fun x1 => ?_
  try simp (maxSteps := 2000000) only [↓RG, RP, RB, BEq.rfl, Int.reduceEq, Int.reduceLT, Int.reduceLE, Nat.reduceEqDiff]
  exact hK.drop
theorem s_keep_Call_Which {v : Value} {c : TCall} [i : Cells v (TCall.cells c)] (hK : G w0 L (K (i64 (cWhich c)))) : G w0 L (CP Tryz.prog Fn.keep_Call_Which [v] K) := by
  refine C_keep_Call_Which ?_
  unfold S_keep_Call_Which
  unfold cWhich at hK
  refine G.box fun x1 => ?_
  by_cases h1 : 1 ≤ c.what
  · by_cases h2 : c.what ≤ 12
    · rw [if_pos ⟨h1, h2⟩] at hK
      try simp (maxSteps := 2000000) only [↓RG, RP, RB, BEq.rfl, Int.reduceEq, Int.reduceLT, Int.reduceLE, Nat.reduceEqDiff, eq_true h1, eq_true h2]
      exact hK.drop
    · rw [if_neg (fun h => h2 h.2)] at hK
      try simp (maxSteps := 2000000) only [↓RG, RP, RB, BEq.rfl, Int.reduceEq, Int.reduceLT, Int.reduceLE, Nat.reduceEqDiff, eq_true h1, h2]
      refine s_book_Within (by omega) (by omega) (by omega) (by omega) ?_
      exact hK.drop
  · rw [if_neg (fun h => h1 h.1)] at hK
    try simp (maxSteps := 2000000) only [↓RG, RP, RB, BEq.rfl, Int.reduceEq, Int.reduceLT, Int.reduceLE, Nat.reduceEqDiff, h1]
    refine s_book_Within (by omega) (by omega) (by omega) (by omega) ?_
    exact hK.drop
end
end Go.Proofs.YtokbiojkpldfeaaGreat.S

/-
  quietuskeep: Call.Place (an array that is indexed: no plain form): walked by hand.
-/
namespace Go.Proofs.YtokbiojkpldfeaaGreat.S
open Go Go.Proofs
set_option linter.unusedVariables false
set_option linter.unusedSimpArgs false
set_option maxRecDepth 100000

/-- a contract, at a world -/
theorem CP.at {P : Program} {f : FuncId} {args : List Value} {w0 : Base} {L : List Asn} {r : Value} {w : World} (h : ∀ K, G w0 L (K r) → G w0 L (CP P f args K)) (H : St w0 L w) : Calls P f args.toArray w fun e w' => e = .returned r ∧ St w0 L w' := by
  have h2 := (h (fun v w' => v = r ∧ St w0 L w') (fun w hw => ⟨rfl, hw⟩) w H).2
  refine h2.mono fun e w' he => ?_
  cases e <;> first | exact absurd he id | skip
  obtain ⟨rfl, h3⟩ := he
  exact ⟨rfl, h3⟩
def cSort (n : Int) : Int := if n = 4 ∨ n = 5 ∨ n = 6 then 1 else if n = 7 ∨ n = 8 then 2 else if 9 ≤ n then 3 else 0
def cPlace (c : TCall) : Int := 2 * cSort (cWhich c) + within c.root 0 1

theorem cWhich_cases (c : TCall) : cWhich c = 1 ∨ cWhich c = 2 ∨ cWhich c = 3 ∨ cWhich c = 4 ∨ cWhich c = 5 ∨ cWhich c = 6 ∨ cWhich c = 7 ∨ cWhich c = 8 ∨ cWhich c = 9 ∨ cWhich c = 10 ∨ cWhich c = 11 ∨ cWhich c = 12 := by
  unfold cWhich
  split
  · omega
  · unfold within; omega

theorem place_n {w0 : Base} {L : List Asn} {c : TCall} {w : World} {n m : Int} (H : St w0 L w) (e0 : cWhich c = n) (hm : 0 ≤ m ∧ m ≤ 3) (x1 : ∀ w : World, (Instr.index 133 (.agg #[.int .i64 0, .int .i64 0, .int .i64 0, .int .i64 0, .int .i64 1, .int .i64 1, .int .i64 1, .int .i64 2, .int .i64 2, .int .i64 3, .int .i64 3, .int .i64 3, .int .i64 3]) (.int .i64 n)).run Tryz.prog w = .ok (.int .i64 m) w) : Calls Tryz.prog Fn.keep_Call_Place #[.agg (TCall.cells c).toArray] w fun e w' => e = .returned (i64 (2 * m + within c.root 0 1)) ∧ St w0 L w' := by
  have hW : ∀ {L' : List Asn} {W : World}, St w0 L' W → Calls Tryz.prog Fn.keep_Call_Which #[.agg (TCall.cells c).toArray] W fun e w' => e = .returned (i64 (cWhich c)) ∧ St w0 L' w' := fun H => CP.at (args := [.agg (TCall.cells c).toArray]) (fun K hK => s_keep_Call_Which (v := .agg (TCall.cells c).toArray) hK) H
  have hn : ∀ {L' : List Asn} {W : World}, St w0 L' W → Calls Tryz.prog Fn.book_Within #[i64 c.root, i64 0, i64 1] W fun e w' => e = .returned (i64 (within c.root 0 1)) ∧ St w0 L' w' := fun H => CP.at (args := [i64 c.root, i64 0, i64 1]) (fun K hK => s_book_Within (by omega) (by omega) (by omega) (by omega) hK) H
  rw [e0] at hW
  have hb : 0 ≤ within c.root 0 1 ∧ within c.root 0 1 ≤ 1 := by unfold within; omega
  generalize within c.root 0 1 = z at hn hb ⊢
  go_enter Tryz.func22, Tryz.ntmps22
  go_wp2_with (first | (go_at_call 77; refine (hW (L' := own w.heap.size (TCall.cells c) :: L) (H.alloc (TCall.cells c) _)).mono ?_; rintro e w' ⟨rfl, H2⟩; have hc := H2.own_mem; have hc1 : w'.cell? ⟨w.heap.size, 1, none⟩ = some (i64 c.root) := by (rw [cell_mem hc.2.1]; rfl)) | (go_at_call 46; refine (hn (L' := own w.heap.size (TCall.cells c) :: L) H2).mono ?_; rintro e w' ⟨rfl, H3⟩))
  go_ret
  refine ⟨?_, H3.drop⟩
  have w1 : RowKit.wrap64 (2 * m) = 2 * m := by unfold RowKit.wrap64; omega
  have w2 : RowKit.wrap64 (2 * m + z) = 2 * m + z := by unfold RowKit.wrap64; omega
  simp only [w1, w2]
  rfl
theorem s_keep_Call_Place_at {w0 : Base} {L : List Asn} {c : TCall} {w : World} (H : St w0 L w) : Calls Tryz.prog Fn.keep_Call_Place #[.agg (TCall.cells c).toArray] w fun e w' => e = .returned (i64 (cPlace c)) ∧ St w0 L w' := by
  unfold cPlace
  rcases cWhich_cases c with h | h | h | h | h | h | h | h | h | h | h | h <;> rw [h] <;> exact place_n H h (by decide) (fun _ => by kernel_rfl)
theorem s_keep_Call_Place {w0 : Base} {L : List Asn} {K : KV} {v : Value} {c : TCall} [i : Cells v (TCall.cells c)] (hK : G w0 L (K (i64 (cPlace c)))) : G w0 L (CP Tryz.prog Fn.keep_Call_Place [.agg (TCall.cells c).toArray] K) := fun w H =>
  ⟨⟨_, Tryz.func22, by kernel_rfl, by kernel_rfl⟩, (s_keep_Call_Place_at (c := c) H).mono fun e w' he => by obtain ⟨rfl, h⟩ := he; exact hK _ h⟩
end Go.Proofs.YtokbiojkpldfeaaGreat.S

/-
  CHAPTER 18: the statements' own functions: a call, all that is there.
-/
namespace Go.Proofs.YtokbiojkpldfeaaGreat.S
open Go Go.Proofs
set_option linter.unusedVariables false
set_option linter.unusedSimpArgs false

def mine (c : TCall) : TCall := ⟨within c.what 4 6, c.root, c.k, c.x⟩
section
variable {w0 : Base} {L M : List Asn} {K : KV} {F : World → Prop} {C : Asn → List Asn} {b : Nat} {n a x e w k root : Int}
theorem s_law18_mine {v : Value} {c : TCall} [i : Cells v (TCall.cells c)] (hK : G w0 L (K (.agg (TCall.cells (mine c)).toArray))) : G w0 L (CP Tryz.prog Fn.law18_mine [v] K) := by
  refine C_law18_mine ?_
  unfold S_law18_mine
  refine G.box fun x1 => ?_
  refine G.new fun x2 => ?_
  try simp (maxSteps := 2000000) only [↓RG, RP, RB, BEq.rfl, Int.reduceEq, Int.reduceLT, Int.reduceLE, Nat.reduceEqDiff]
  refine s_book_Within (by omega) (by omega) (by omega) (by omega) ?_
  try simp (maxSteps := 2000000) only [↓RG, RP, RB, BEq.rfl, Int.reduceEq, Int.reduceLT, Int.reduceLE, Nat.reduceEqDiff]
  exact hK.sub

def itemT (t : Bool) : TItem := ⟨2, if t = true then 1 else 0⟩
def lCall (s : VwS) (root : Int) (c : TCall) : VwS × TItem × Int :=
  if cWhich c = 4 then ((tPut s root (cKey c) (cVal c)).1, itemT (tPut s root (cKey c) (cVal c)).2.1, (tPut s root (cKey c) (cVal c)).2.2)
  else if cWhich c = 5 then ((tGet s root (cKey c)).1, ⟨if (tGet s root (cKey c)).2.2.1 = true then 1 else 3, (tGet s root (cKey c)).2.1⟩, (tGet s root (cKey c)).2.2.2)
  else ((tDel s root (cKey c)).1, itemT (tDel s root (cKey c)).2.1, (tDel s root (cKey c)).2.2)
theorem s_law18_call {s : VwS} {v : Value} {c : TCall} [i : SelOb L ViewR b s C] [iv : Cells v (TCall.cells c)] (hs : s.l.r.f.length ≤ 1000) (hK : G w0 (C (ob ViewR b (lCall s root c).1)) (K (.tuple #[.agg (TItem.cells (lCall s root c).2.1).toArray, i64 (lCall s root c).2.2]))) : G w0 L (CP Tryz.prog Fn.law18_call [ptr b 0, i64 root, v] K) := by
  refine i.use (fun M hK => ?_) hK
  refine C_law18_call ?_
  unfold S_law18_call
  unfold lCall at hK
  refine G.box fun x1 => ?_
  refine G.new fun x2 => ?_
  try simp (maxSteps := 2000000) only [↓RG, RP, RB, BEq.rfl, Int.reduceEq, Int.reduceLT, Int.reduceLE, Nat.reduceEqDiff]
  refine s_keep_Call_Which ?_
  by_cases h4 : cWhich c = 4
  · rw [if_pos h4] at hK
    have e4 : decide (cWhich c = 4) = true := decide_eq_true h4
    try simp (maxSteps := 2000000) only [↓RG, RP, RB, BEq.rfl, Int.reduceEq, Int.reduceLT, Int.reduceLE, Nat.reduceEqDiff, e4]
    refine G.join2 (σ := Unit) (fun _ => .bool (tPut s root (cKey c) (cVal c)).2.1) (fun _ => i64 (tPut s root (cKey c) (cVal c)).2.2) (fun _ => own x2 [i64 0, u64 0] :: own x1 (TCall.cells c) :: ob ViewR b (tPut s root (cKey c) (cVal c)).1 :: M) (fun _ => True) (fun _ _ => ?_) (fun J hJ => ?_)
    · unfold itemT at hK
      generalize tPut s root (cKey c) (cVal c) = p at hK ⊢
      obtain ⟨s2, t, er⟩ := p
      simp only at hK ⊢
      cases t
      · try simp (maxSteps := 2000000) only [↓RG, RP, RB, BEq.rfl, Int.reduceEq, Int.reduceLT, Int.reduceLE, Nat.reduceEqDiff]
        exact hK.sub
      · try simp (maxSteps := 2000000) only [↓RG, RP, RB, BEq.rfl, Int.reduceEq, Int.reduceLT, Int.reduceLE, Nat.reduceEqDiff]
        exact hK.sub
    · refine G.drew ?_
      try simp (maxSteps := 2000000) only [↓RG, RP, RB, BEq.rfl, Int.reduceEq, Int.reduceLT, Int.reduceLE, Nat.reduceEqDiff]
      refine s_keep_Call_Key ?_
      try simp (maxSteps := 2000000) only [↓RG, RP, RB, BEq.rfl, Int.reduceEq, Int.reduceLT, Int.reduceLE, Nat.reduceEqDiff]
      refine s_keep_Call_Val ?_
      try simp (maxSteps := 2000000) only [↓RG, RP, RB, BEq.rfl, Int.reduceEq, Int.reduceLT, Int.reduceLE, Nat.reduceEqDiff]
      refine s_table_Put (s := s) hs ?_
      try simp (maxSteps := 2000000) only [↓RG, RP, RB, BEq.rfl, Int.reduceEq, Int.reduceLT, Int.reduceLE, Nat.reduceEqDiff]
      exact (hJ () trivial).sub
  · rw [if_neg h4] at hK
    have e4 : decide (cWhich c = 4) = false := decide_eq_false h4
    try simp (maxSteps := 2000000) only [↓RG, RP, RB, BEq.rfl, Int.reduceEq, Int.reduceLT, Int.reduceLE, Nat.reduceEqDiff, e4]
    refine G.join2 (σ := Unit) (fun _ => .bool (tDel s root (cKey c)).2.1) (fun _ => i64 (tDel s root (cKey c)).2.2) (fun _ => own x2 [i64 0, u64 0] :: own x1 (TCall.cells c) :: ob ViewR b (tDel s root (cKey c)).1 :: M) (fun _ => ¬ cWhich c = 5) (fun _ h5 => ?_) (fun J hJ => ?_)
    · rw [if_neg h5] at hK
      unfold itemT at hK
      generalize tDel s root (cKey c) = p at hK ⊢
      obtain ⟨s2, t, er⟩ := p
      simp only at hK ⊢
      cases t
      · try simp (maxSteps := 2000000) only [↓RG, RP, RB, BEq.rfl, Int.reduceEq, Int.reduceLT, Int.reduceLE, Nat.reduceEqDiff]
        exact hK.sub
      · try simp (maxSteps := 2000000) only [↓RG, RP, RB, BEq.rfl, Int.reduceEq, Int.reduceLT, Int.reduceLE, Nat.reduceEqDiff]
        exact hK.sub
    · by_cases h5 : cWhich c = 5
      · rw [if_pos h5] at hK
        have e5 : decide (cWhich c = 5) = true := decide_eq_true h5
        try simp (maxSteps := 2000000) only [↓RG, RP, RB, BEq.rfl, Int.reduceEq, Int.reduceLT, Int.reduceLE, Nat.reduceEqDiff, e5]
        refine s_keep_Call_Key ?_
        try simp (maxSteps := 2000000) only [↓RG, RP, RB, BEq.rfl, Int.reduceEq, Int.reduceLT, Int.reduceLE, Nat.reduceEqDiff]
        refine s_table_Get (s := s) hs ?_
        generalize tGet s root (cKey c) = p at hK ⊢
        obtain ⟨s2, z, t, er⟩ := p
        simp only at hK ⊢
        cases t
        · try simp (maxSteps := 2000000) only [↓RG, RP, RB, BEq.rfl, Int.reduceEq, Int.reduceLT, Int.reduceLE, Nat.reduceEqDiff]
          exact hK.sub
        · try simp (maxSteps := 2000000) only [↓RG, RP, RB, BEq.rfl, Int.reduceEq, Int.reduceLT, Int.reduceLE, Nat.reduceEqDiff]
          exact hK.sub
      · have e5 : decide (cWhich c = 5) = false := decide_eq_false h5
        try simp (maxSteps := 2000000) only [↓RG, RP, RB, BEq.rfl, Int.reduceEq, Int.reduceLT, Int.reduceLE, Nat.reduceEqDiff, e5]
        refine s_keep_Call_Key ?_
        try simp (maxSteps := 2000000) only [↓RG, RP, RB, BEq.rfl, Int.reduceEq, Int.reduceLT, Int.reduceLE, Nat.reduceEqDiff]
        refine s_table_Del (s := s) hs ?_
        try simp (maxSteps := 2000000) only [↓RG, RP, RB, BEq.rfl, Int.reduceEq, Int.reduceLT, Int.reduceLE, Nat.reduceEqDiff]
        exact (hJ () h5).sub

/-- all that is there, and how many -/
def lAll (s : VwS) (root : Int) : VwS × List TPair × Int :=
  if (tLen (tAll s root).1 root).2.2 = (tAll s root).2.2 ∧ (tLen (tAll s root).1 root).2.1 = ((tAll s root).2.1.length : Int) then ((tLen (tAll s root).1 root).1, (tAll s root).2.1, (tAll s root).2.2) else ((tLen (tAll s root).1 root).1, [], 1)
end
end Go.Proofs.YtokbiojkpldfeaaGreat.S
