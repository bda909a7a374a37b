/-
  CHAPTER 3: the statements' own functions that need no memory of the document.
-/
import Derived.Test.YtaghnmllaghcbaaStripe
namespace Go.Proofs.Ytaghnmllaghcbaa.S
open Go Go.Proofs
set_option linter.unusedVariables false
set_option linter.unusedSimpArgs false

section
variable {w0 : World} {L M : List Asn} {K : KV} {F : World → Prop} {C : Asn → List Asn} {b : Nat} {ls : List TLock} {wide : Int}

theorem held_id {n lo hi : Int} (h : lo ≤ n) (h2 : n ≤ hi) : held n lo hi = n := by unfold held; split <;> (try split) <;> omega

theorem s_law3_StripeRuns (hK : G w0 L (K (.bool true))) : G w0 L (CP Try.prog Fn.law3_StripeRuns [] K) := by
  refine C_law3_StripeRuns ?_
  unfold S_law3_StripeRuns
  refine s_stripe_New fun b => ?_
  have e1 : List.replicate (held 4 1 16).toNat zeroLock = [⟨0, false, 0⟩, ⟨0, false, 0⟩, ⟨0, false, 0⟩, ⟨0, false, 0⟩] := by decide
  have e2 : held 2 1 16 = 2 := by decide
  rw [e1, e2]
  try simp (maxSteps := 2000000) only [↓RG, RP, true_and, and_true, beq_true, beq_false, Bool.true_beq, Bool.false_beq, BEq.rfl, Int.reduceEq, Int.reduceLT, Int.reduceLE, Nat.reduceEqDiff, decide_true, decide_false, Bool.not_true, Bool.not_false, Bool.and_true, Bool.true_and, Bool.and_false, Bool.false_and, Bool.or_true, Bool.true_or, Bool.or_false, Bool.false_or, Bool.not_not]
  refine G.new fun p => ?_
  try simp (maxSteps := 2000000) only [↓RG, RP, true_and, and_true, beq_true, beq_false, Bool.true_beq, Bool.false_beq, BEq.rfl, Int.reduceEq, Int.reduceLT, Int.reduceLE, Nat.reduceEqDiff, decide_true, decide_false, Bool.not_true, Bool.not_false, Bool.and_true, Bool.true_and, Bool.and_false, Bool.false_and, Bool.or_true, Bool.true_or, Bool.or_false, Bool.false_or, Bool.not_not]
  refine s_stripe_Table_Cas (ls := [⟨0, false, 0⟩, ⟨0, false, 0⟩, ⟨0, false, 0⟩, ⟨0, false, 0⟩]) ?_
  have e3 : casRes [⟨0, false, 0⟩, ⟨0, false, 0⟩, ⟨0, false, 0⟩, ⟨0, false, 0⟩] 1 ⟨0, false, 0⟩ ⟨0, true, 1⟩ = ([⟨0, false, 0⟩, ⟨0, true, 1⟩, ⟨0, false, 0⟩, ⟨0, false, 0⟩], true, 0) := by decide
  rw [e3]
  try simp (maxSteps := 2000000) only [↓RG, RP, true_and, and_true, beq_true, beq_false, Bool.true_beq, Bool.false_beq, BEq.rfl, Int.reduceEq, Int.reduceLT, Int.reduceLE, Nat.reduceEqDiff, decide_true, decide_false, Bool.not_true, Bool.not_false, Bool.and_true, Bool.true_and, Bool.and_false, Bool.false_and, Bool.or_true, Bool.true_or, Bool.or_false, Bool.false_or, Bool.not_not]
  refine s_stripe_Table_Cas (ls := [⟨0, false, 0⟩, ⟨0, true, 1⟩, ⟨0, false, 0⟩, ⟨0, false, 0⟩]) ?_
  have e4 : casRes [⟨0, false, 0⟩, ⟨0, true, 1⟩, ⟨0, false, 0⟩, ⟨0, false, 0⟩] 1 ⟨0, false, 0⟩ ⟨0, true, 1⟩ = ([⟨0, false, 0⟩, ⟨0, true, 1⟩, ⟨0, false, 0⟩, ⟨0, false, 0⟩], false, 0) := by decide
  rw [e4]
  try simp (maxSteps := 2000000) only [↓RG, RP, true_and, and_true, beq_true, beq_false, Bool.true_beq, Bool.false_beq, BEq.rfl, Int.reduceEq, Int.reduceLT, Int.reduceLE, Nat.reduceEqDiff, decide_true, decide_false, Bool.not_true, Bool.not_false, Bool.and_true, Bool.true_and, Bool.and_false, Bool.false_and, Bool.or_true, Bool.true_or, Bool.or_false, Bool.false_or, Bool.not_not]
  refine s_stripe_Table_Load (ls := [⟨0, false, 0⟩, ⟨0, true, 1⟩, ⟨0, false, 0⟩, ⟨0, false, 0⟩]) ?_
  have e5 : loadRes [⟨0, false, 0⟩, ⟨0, true, 1⟩, ⟨0, false, 0⟩, ⟨0, false, 0⟩] 4 = (⟨0, false, 0⟩, 2) := by decide
  rw [e5]
  try simp (maxSteps := 2000000) only [↓RG, RP, true_and, and_true, beq_true, beq_false, Bool.true_beq, Bool.false_beq, BEq.rfl, Int.reduceEq, Int.reduceLT, Int.reduceLE, Nat.reduceEqDiff, decide_true, decide_false, Bool.not_true, Bool.not_false, Bool.and_true, Bool.true_and, Bool.and_false, Bool.false_and, Bool.or_true, Bool.true_or, Bool.or_false, Bool.false_or, Bool.not_not]
  refine G.new fun q => ?_
  try simp (maxSteps := 2000000) only [↓RG, RP, true_and, and_true, beq_true, beq_false, Bool.true_beq, Bool.false_beq, BEq.rfl, Int.reduceEq, Int.reduceLT, Int.reduceLE, Nat.reduceEqDiff, decide_true, decide_false, Bool.not_true, Bool.not_false, Bool.and_true, Bool.true_and, Bool.and_false, Bool.false_and, Bool.or_true, Bool.true_or, Bool.or_false, Bool.false_or, Bool.not_not]
  refine s_stripe_Table_Held (ls := [⟨0, false, 0⟩, ⟨0, true, 1⟩, ⟨0, false, 0⟩, ⟨0, false, 0⟩]) (by simp) fun u hu => ?_
  have e6 : heldUpTo [⟨0, false, 0⟩, ⟨0, true, 1⟩, ⟨0, false, 0⟩, ⟨0, false, 0⟩] 1 4 = [1] := by decide
  simp only [List.length_cons, List.length_nil, Nat.reduceAdd, e6]
  have o0 : stripeOf 0 ((4 : Nat) : Int) 2 = 0 := by decide
  have o1 : stripeOf 1 ((4 : Nat) : Int) 2 = 0 := by decide
  have o2 : stripeOf 2 ((4 : Nat) : Int) 2 = 1 := by decide
  have o8 : stripeOf 8 ((4 : Nat) : Int) 2 = 0 := by decide
  refine s_stripe_Table_Of (ls := [⟨0, false, 0⟩, ⟨0, true, 1⟩, ⟨0, false, 0⟩, ⟨0, false, 0⟩]) ?_
  simp only [List.length_cons, List.length_nil, Nat.reduceAdd, o0]
  try simp (maxSteps := 2000000) only [↓RG, RP, true_and, and_true, beq_true, beq_false, Bool.true_beq, Bool.false_beq, BEq.rfl, Int.reduceEq, Int.reduceLT, Int.reduceLE, Nat.reduceEqDiff, decide_true, decide_false, Bool.not_true, Bool.not_false, Bool.and_true, Bool.true_and, Bool.and_false, Bool.false_and, Bool.or_true, Bool.true_or, Bool.or_false, Bool.false_or, Bool.not_not]
  refine s_stripe_Table_Of (ls := [⟨0, false, 0⟩, ⟨0, true, 1⟩, ⟨0, false, 0⟩, ⟨0, false, 0⟩]) ?_
  simp only [List.length_cons, List.length_nil, Nat.reduceAdd, o1]
  try simp (maxSteps := 2000000) only [↓RG, RP, true_and, and_true, beq_true, beq_false, Bool.true_beq, Bool.false_beq, BEq.rfl, Int.reduceEq, Int.reduceLT, Int.reduceLE, Nat.reduceEqDiff, decide_true, decide_false, Bool.not_true, Bool.not_false, Bool.and_true, Bool.true_and, Bool.and_false, Bool.false_and, Bool.or_true, Bool.true_or, Bool.or_false, Bool.false_or, Bool.not_not]
  refine s_stripe_Table_Of (ls := [⟨0, false, 0⟩, ⟨0, true, 1⟩, ⟨0, false, 0⟩, ⟨0, false, 0⟩]) ?_
  simp only [List.length_cons, List.length_nil, Nat.reduceAdd, o2]
  try simp (maxSteps := 2000000) only [↓RG, RP, true_and, and_true, beq_true, beq_false, Bool.true_beq, Bool.false_beq, BEq.rfl, Int.reduceEq, Int.reduceLT, Int.reduceLE, Nat.reduceEqDiff, decide_true, decide_false, Bool.not_true, Bool.not_false, Bool.and_true, Bool.true_and, Bool.and_false, Bool.false_and, Bool.or_true, Bool.true_or, Bool.or_false, Bool.false_or, Bool.not_not]
  refine s_stripe_Table_Of (ls := [⟨0, false, 0⟩, ⟨0, true, 1⟩, ⟨0, false, 0⟩, ⟨0, false, 0⟩]) ?_
  simp only [List.length_cons, List.length_nil, Nat.reduceAdd, o8]
  try simp (maxSteps := 2000000) only [↓RG, RP, true_and, and_true, beq_true, beq_false, Bool.true_beq, Bool.false_beq, BEq.rfl, Int.reduceEq, Int.reduceLT, Int.reduceLE, Nat.reduceEqDiff, decide_true, decide_false, Bool.not_true, Bool.not_false, Bool.and_true, Bool.true_and, Bool.and_false, Bool.false_and, Bool.or_true, Bool.true_or, Bool.or_false, Bool.false_or, Bool.not_not]
  refine s_stripe_Table_Len (ls := [⟨0, false, 0⟩, ⟨0, true, 1⟩, ⟨0, false, 0⟩, ⟨0, false, 0⟩]) ?_
  simp only [List.length_cons, List.length_nil, Nat.reduceAdd]
  try simp [↓RG, RP]
  refine s_stripe_Table_Copy (ls := [⟨0, false, 0⟩, ⟨0, true, 1⟩, ⟨0, false, 0⟩, ⟨0, false, 0⟩]) (by simp) fun c => ?_
  try simp [↓RG, RP]
  exact hK.sub

theorem s_law3_StripeOf {a n wd : Int} (hK : G w0 L (K (.bool true))) : G w0 L (CP Try.prog Fn.law3_StripeOf [i64 a, i64 n, i64 wd] K) := by
  refine C_law3_StripeOf ?_
  unfold S_law3_StripeOf
  refine s_law3_StripeRuns ?_
  try simp (maxSteps := 2000000) only [↓RG, RP, true_and, and_true, beq_true, beq_false, Bool.true_beq, Bool.false_beq, BEq.rfl, Int.reduceEq, Int.reduceLT, Int.reduceLE, Nat.reduceEqDiff, decide_true, decide_false, Bool.not_true, Bool.not_false, Bool.and_true, Bool.true_and, Bool.and_false, Bool.false_and, Bool.or_true, Bool.true_or, Bool.or_false, Bool.false_or, Bool.not_not]
  refine s_stripe_New fun b => ?_
  try simp (maxSteps := 2000000) only [↓RG, RP, true_and, and_true, beq_true, beq_false, Bool.true_beq, Bool.false_beq, BEq.rfl, Int.reduceEq, Int.reduceLT, Int.reduceLE, Nat.reduceEqDiff, decide_true, decide_false, Bool.not_true, Bool.not_false, Bool.and_true, Bool.true_and, Bool.and_false, Bool.false_and, Bool.or_true, Bool.true_or, Bool.or_false, Bool.false_or, Bool.not_not]
  have hn := held_le (n := n) (show (1 : Int) ≤ 16 by omega)
  have hw := held_le (n := wd) (show (1 : Int) ≤ 16 by omega)
  refine s_stripe_Table_Of (ls := List.replicate (held n 1 16).toNat zeroLock) ?_
  have e : stripeOf a ((List.replicate (held n 1 16).toNat zeroLock).length : Nat) (held wd 1 16) = stripeOf a n wd := by
    have h1 : held (held wd 1 16) 1 16 = held wd 1 16 := held_id (by omega) (by omega)
    have h2 : held (held n 1 16) 1 16 = held n 1 16 := held_id (by omega) (by omega)
    simp only [List.length_replicate, Int.toNat_of_nonneg (show 0 ≤ held n 1 16 by omega), stripeOf, h1, h2]
  rw [e]
  refine s_ref1_Of ?_
  try simp (maxSteps := 2000000) only [↓RG, RP, true_and, and_true, beq_true, beq_false, Bool.true_beq, Bool.false_beq, BEq.rfl, Int.reduceEq, Int.reduceLT, Int.reduceLE, Nat.reduceEqDiff, decide_true, decide_false, Bool.not_true, Bool.not_false, Bool.and_true, Bool.true_and, Bool.and_false, Bool.false_and, Bool.or_true, Bool.true_or, Bool.or_false, Bool.false_or, Bool.not_not]
  refine s_stripe_Of ?_
  try simp (maxSteps := 2000000) only [↓RG, RP, true_and, and_true, beq_true, beq_false, Bool.true_beq, Bool.false_beq, BEq.rfl, Int.reduceEq, Int.reduceLT, Int.reduceLE, Nat.reduceEqDiff, decide_true, decide_false, Bool.not_true, Bool.not_false, Bool.and_true, Bool.true_and, Bool.and_false, Bool.false_and, Bool.or_true, Bool.true_or, Bool.or_false, Bool.false_or, Bool.not_not]
  refine s_ref1_Of ?_
  try simp (maxSteps := 2000000) only [↓RG, RP, true_and, and_true, beq_true, beq_false, Bool.true_beq, Bool.false_beq, BEq.rfl, Int.reduceEq, Int.reduceLT, Int.reduceLE, Nat.reduceEqDiff, decide_true, decide_false, Bool.not_true, Bool.not_false, Bool.and_true, Bool.true_and, Bool.and_false, Bool.false_and, Bool.or_true, Bool.true_or, Bool.or_false, Bool.false_or, Bool.not_not]
  exact hK.sub

/-- side by side -/
theorem stripeOf_row {r w k i : Nat} (hw : 0 < w) (hw2 : w ≤ 16) (hk : 0 < k) (hk2 : k ≤ 16) (hi : i < w) (hr : r ≤ 100000) : stripeOf ((r * w + i : Nat) : Int) k w = ((r % k : Nat) : Int) := by
  have h1 : held (w : Int) 1 16 = w := held_id (by omega) (by omega)
  have h2 : held (k : Int) 1 16 = k := held_id (by omega) (by omega)
  unfold stripeOf
  rw [if_neg (by omega), h1, h2]
  have h3 : ((r * w + i : Nat) : Int).tdiv (w : Int) = (r : Int) := by
    rw [Int.tdiv_eq_ediv_of_nonneg (by omega), ← Int.natCast_ediv]
    congr 1
    rw [Nat.mul_comm, Nat.mul_add_div hw, Nat.div_eq_of_lt hi, Nat.add_zero]
  rw [h3, wi64 (by omega) (by omega), Int.tmod_eq_emod_of_nonneg (by omega), ← Int.natCast_emod]

theorem side {n : Int} (h : 0 ≤ n ∧ n ≤ 255) : ∃ k : Nat, 0 < k ∧ k ≤ 16 ∧ IntKind.wrap .i64 (IntKind.wrap .i64 (n.tmod 16) + 1) = (k : Int) := by
  refine ⟨n.toNat % 16 + 1, by omega, by omega, ?_⟩
  rw [Int.tmod_eq_emod_of_nonneg h.1, wi64 (n := n % 16) (by omega) (by omega), wi64 (by omega) (by omega)]
  omega

theorem s_law3_StripeSpread {n wd a : Int} (hn0 : inK .u8 n) (hn1 : inK .u8 wd) (hn2 : inK .u8 a) (hK : G w0 L (K (.bool true))) : G w0 L (CP Try.prog Fn.law3_StripeSpread [.int .u8 n, .int .u8 wd, .int .u8 a] K) := by
  have hn := inK_u8 hn0
  have hw := inK_u8 hn1
  have ha := inK_u8 hn2
  refine C_law3_StripeSpread ?_
  unfold S_law3_StripeSpread
  refine s_law3_StripeRuns ?_
  try simp (maxSteps := 2000000) only [fuse_and, fuse_or, fuse_step, fuse_pair, fuse_in, andP_true]
  try simp (maxSteps := 2000000) only [↓RG, RP, true_and, and_true, beq_true, beq_false, Bool.true_beq, Bool.false_beq, BEq.rfl, Int.reduceEq, Int.reduceLT, Int.reduceLE, Nat.reduceEqDiff, decide_true, decide_false, Bool.not_true, Bool.not_false, Bool.and_true, Bool.true_and, Bool.and_false, Bool.false_and, Bool.or_true, Bool.true_or, Bool.or_false, Bool.false_or, Bool.not_not]
  obtain ⟨r, rfl⟩ : ∃ r : Nat, a = r := ⟨a.toNat, by omega⟩
  obtain ⟨k, hk0, hk1, e1⟩ := side (n := n) hn
  obtain ⟨v, hv0, hv1, e2⟩ := side (n := wd) hw
  have e3 : IntKind.wrap .i64 (IntKind.wrap .i64 (r : Int) * (v : Int)) = ((r * v + 0 : Nat) : Int) := by
    have : r * v ≤ 255 * 16 := Nat.mul_le_mul (by omega) hv1
    have e : (r : Int) * (v : Int) = ((r * v : Nat) : Int) := by simp
    rw [wi64 (n := r) (by omega) (by omega), e, wi64 (by omega) (by omega)]
    rfl
  simp only [e1, e2, e3]
  refine s_stripe_New fun b => ?_
  have h1 : held (v : Int) 1 16 = v := held_id (by omega) (by omega)
  have h2 : held (k : Int) 1 16 = k := held_id (by omega) (by omega)
  rw [h1, h2]
  simp only [Int.toNat_natCast]
  try simp (maxSteps := 2000000) only [↓RG, RP, true_and, and_true, beq_true, beq_false, Bool.true_beq, Bool.false_beq, BEq.rfl, Int.reduceEq, Int.reduceLT, Int.reduceLE, Nat.reduceEqDiff, decide_true, decide_false, Bool.not_true, Bool.not_false, Bool.and_true, Bool.true_and, Bool.and_false, Bool.false_and, Bool.or_true, Bool.true_or, Bool.or_false, Bool.false_or, Bool.not_not]
  refine s_stripe_Table_Of (ls := List.replicate k zeroLock) ?_
  have hlen : (List.replicate k zeroLock).length = k := List.length_replicate
  rw [hlen, stripeOf_row hv0 hv1 hk0 hk1 (by omega) (by omega)]
  have hrv : r * v ≤ 255 * 16 := Nat.mul_le_mul (by omega) hv1
  refine G.loopc1 (fun i : Nat => i64 i) (fun i => i ≤ v) (fun i => v - i) 0 rfl (by simp) ?_
  intro i hi J hJ
  try simp (maxSteps := 2000000) only [↓RG, RP, true_and, and_true, beq_true, beq_false, Bool.true_beq, Bool.false_beq, BEq.rfl, Int.reduceEq, Int.reduceLT, Int.reduceLE, Nat.reduceEqDiff, decide_true, decide_false, Bool.not_true, Bool.not_false, Bool.and_true, Bool.true_and, Bool.and_false, Bool.false_and, Bool.or_true, Bool.true_or, Bool.or_false, Bool.false_or, Bool.not_not]
  refine G.cond (fun h => ?_) (fun h => ?_)
  · have hi2 : i < v := by simpa using h
    try simp (maxSteps := 2000000) only [↓RG, RP, true_and, and_true, beq_true, beq_false, Bool.true_beq, Bool.false_beq, BEq.rfl, Int.reduceEq, Int.reduceLT, Int.reduceLE, Nat.reduceEqDiff, decide_true, decide_false, Bool.not_true, Bool.not_false, Bool.and_true, Bool.true_and, Bool.and_false, Bool.false_and, Bool.or_true, Bool.true_or, Bool.or_false, Bool.false_or, Bool.not_not]
    have e4 : IntKind.wrap .i64 (((r * v + 0 : Nat) : Int) + i) = ((r * v + i : Nat) : Int) := by
      rw [wi64 (by omega) (by omega)]; omega
    simp only [e4]
    refine s_stripe_Table_Of (ls := List.replicate k zeroLock) ?_
    rw [hlen, stripeOf_row hv0 hv1 hk0 hk1 hi2 (by omega)]
    try simp (maxSteps := 2000000) only [↓RG, RP, true_and, and_true, beq_true, beq_false, Bool.true_beq, Bool.false_beq, BEq.rfl, Int.reduceEq, Int.reduceLT, Int.reduceLE, Nat.reduceEqDiff, decide_true, decide_false, Bool.not_true, Bool.not_false, Bool.and_true, Bool.true_and, Bool.and_false, Bool.false_and, Bool.or_true, Bool.true_or, Bool.or_false, Bool.false_or, Bool.not_not]
    rw [wsucc (by omega)]
    exact hJ (i + 1) hi2 (by omega)
  · refine G.drew ?_
    have hr : r % k < k := Nat.mod_lt _ hk0
    have d1 : decide (((r % k : Nat) : Int) ≥ 0) = true := by simp; omega
    have d2 : decide (((r % k : Nat) : Int) < k) = true := by simp; omega
    have e5 : IntKind.wrap .i64 (((r * v + 0 : Nat) : Int) + v) = (((r + 1) * v + 0 : Nat) : Int) := by
      rw [wi64 (by omega) (by omega), Nat.add_mul]; omega
    have e6 : (IntKind.wrap .i64 (((r % k : Nat) : Int) + 1)).tmod k = (((r + 1) % k : Nat) : Int) := by
      rw [wi64 (n := ((r % k : Nat) : Int) + 1) (by omega) (by omega), Int.tmod_eq_emod_of_nonneg (by omega)]
      have : (((r % k : Nat) : Int) + 1) % (k : Int) = (((r + 1) % k : Nat) : Int) := by
        rw [show ((r % k : Nat) : Int) + 1 = ((r % k + 1 : Nat) : Int) from rfl, ← Int.natCast_emod, Nat.mod_add_mod]
      exact this
    have nz : NeZ (k : Int) := ⟨by omega⟩
    try simp (maxSteps := 2000000) only [↓RG, RP, true_and, and_true, beq_true, beq_false, Bool.true_beq, Bool.false_beq, BEq.rfl, Int.reduceEq, Int.reduceLT, Int.reduceLE, Nat.reduceEqDiff, decide_true, decide_false, Bool.not_true, Bool.not_false, Bool.and_true, Bool.true_and, Bool.and_false, Bool.false_and, Bool.or_true, Bool.true_or, Bool.or_false, Bool.false_or, Bool.not_not, d1, d2, e5, e6]
    refine s_stripe_Table_Of (ls := List.replicate k zeroLock) ?_
    rw [hlen, stripeOf_row hv0 hv1 hk0 hk1 hv0 (by omega)]
    have e7 : IntKind.wrap .i64 (((r * v + 0 : Nat) : Int) + IntKind.wrap .i64 ((v : Int) * k)) = (((r + k) * v + 0 : Nat) : Int) := by
      have hvk : v * k ≤ 16 * 16 := Nat.mul_le_mul hv1 hk1
      have e : (v : Int) * (k : Int) = ((v * k : Nat) : Int) := by simp
      rw [e, wi64 (n := ((v * k : Nat) : Int)) (by omega) (by omega), wi64 (by omega) (by omega), Nat.add_mul, Nat.mul_comm v k]
      omega
    try simp (maxSteps := 2000000) only [↓RG, RP, true_and, and_true, beq_true, beq_false, Bool.true_beq, Bool.false_beq, BEq.rfl, Int.reduceEq, Int.reduceLT, Int.reduceLE, Nat.reduceEqDiff, decide_true, decide_false, Bool.not_true, Bool.not_false, Bool.and_true, Bool.true_and, Bool.and_false, Bool.false_and, Bool.or_true, Bool.true_or, Bool.or_false, Bool.false_or, Bool.not_not, e7]
    refine s_stripe_Table_Of (ls := List.replicate k zeroLock) ?_
    rw [hlen, stripeOf_row hv0 hv1 hk0 hk1 hv0 (by omega), Nat.add_mod_right]
    try simp (maxSteps := 2000000) only [↓RG, RP, true_and, and_true, beq_true, beq_false, Bool.true_beq, Bool.false_beq, BEq.rfl, Int.reduceEq, Int.reduceLT, Int.reduceLE, Nat.reduceEqDiff, decide_true, decide_false, Bool.not_true, Bool.not_false, Bool.and_true, Bool.true_and, Bool.and_false, Bool.false_and, Bool.or_true, Bool.true_or, Bool.or_false, Bool.false_or, Bool.not_not]
    refine s_stripe_Table_Len (ls := List.replicate k zeroLock) ?_
    rw [hlen]
    try simp (maxSteps := 2000000) only [↓RG, RP, true_and, and_true, beq_true, beq_false, Bool.true_beq, Bool.false_beq, BEq.rfl, Int.reduceEq, Int.reduceLT, Int.reduceLE, Nat.reduceEqDiff, decide_true, decide_false, Bool.not_true, Bool.not_false, Bool.and_true, Bool.true_and, Bool.and_false, Bool.false_and, Bool.or_true, Bool.true_or, Bool.or_false, Bool.false_or, Bool.not_not]
    exact hK.sub

/-- the first one holds it, from then on -/
def onceTab (k j : Nat) (o : Int) : Nat → List TLock
  | 0 => List.replicate k zeroLock
  | _ + 1 => (List.replicate k zeroLock).set j ⟨0, true, o⟩

theorem onceTab_load {k j : Nat} {o : Int} (hj : j < k) (x : Nat) : loadRes (onceTab k j o x) (j : Int) = (if x = 0 then ⟨0, false, 0⟩ else ⟨0, true, o⟩, 0) := by
  have hlen : (onceTab k j o x).length = k := by cases x <;> simp [onceTab]
  unfold loadRes
  rw [hlen, inLen_nat hj]
  simp only [Int.toNat_natCast, if_true]
  rw [getD_lock (by rw [hlen]; exact hj)]
  cases x <;> simp [onceTab, zeroLock]

theorem onceTab_cas {k j : Nat} {o : Int} (hj : j < k) (x : Nat) {o2 : Int} (h : 0 ≤ o2 ∧ o2 < 4) (h0 : x = 0 → o2 = o) : casRes (onceTab k j o x) (j : Int) ⟨0, false, 0⟩ ⟨0, true, o2⟩ = (onceTab k j o (x + 1), decide (x = 0), 0) := by
  have hlen : (onceTab k j o x).length = k := by cases x <;> simp [onceTab]
  have hm : mayErr (onceTab k j o x) (j : Int) ⟨0, true, o2⟩ = 0 := by
    unfold mayErr isLock
    rw [hlen, inLen_nat hj]
    simp [h.1, h.2]
  unfold casRes
  rw [hm]
  simp only [Int.toNat_natCast, if_true]
  rw [getD_lock (by rw [hlen]; exact hj)]
  cases x with
  | zero => rw [h0 rfl]; simp [onceTab, zeroLock]
  | succ x => simp [onceTab]

theorem s_law3_StripeOnce {n i : Int} {l1 : Value} {os : List Int} [a1 : Arg w0 l1 byteE os] (hn0 : inK .u8 n) (hn1 : inK .u8 i) (hr2 : ∀ x ∈ os, good [.i .u8] (byteE.enc x)) (hK : G w0 L (K (.bool true))) : G w0 L (CP Try.prog Fn.law3_StripeOnce [.int .u8 n, .int .u8 i, l1] K) := by
  have hn := inK_u8 hn0
  have hi := inK_u8 hn1
  have hos := good_u8 hr2
  refine C_law3_StripeOnce ?_
  unfold S_law3_StripeOnce
  refine s_law3_StripeRuns ?_
  try simp (maxSteps := 2000000) only [fuse_and, fuse_or, fuse_step, fuse_pair, fuse_in, andP_true]
  try simp (maxSteps := 2000000) only [↓RG, RP, true_and, and_true, beq_true, beq_false, Bool.true_beq, Bool.false_beq, BEq.rfl, Int.reduceEq, Int.reduceLT, Int.reduceLE, Nat.reduceEqDiff, decide_true, decide_false, Bool.not_true, Bool.not_false, Bool.and_true, Bool.true_and, Bool.and_false, Bool.false_and, Bool.or_true, Bool.true_or, Bool.or_false, Bool.false_or, Bool.not_not]
  obtain ⟨k, hk0, hk1, e1⟩ := side (n := n) hn
  simp only [e1]
  refine s_stripe_New fun b => ?_
  have h1 : held 1 1 16 = 1 := by decide
  have h2 : held (k : Int) 1 16 = k := held_id (by omega) (by omega)
  rw [h1, h2]
  simp only [Int.toNat_natCast]
  have hlen : (List.replicate k zeroLock).length = k := List.length_replicate
  have nz : NeZ (k : Int) := ⟨by omega⟩
  obtain ⟨j, rfl⟩ : ∃ j : Nat, i = j := ⟨i.toNat, by omega⟩
  have hj : j % k < k := Nat.mod_lt _ hk0
  have e2 : (IntKind.wrap .i64 (j : Int)).tmod k = ((j % k : Nat) : Int) := by
    rw [wi64 (n := (j : Int)) (by omega) (by omega), Int.tmod_eq_emod_of_nonneg (by omega), ← Int.natCast_emod]
  try simp (maxSteps := 2000000) only [↓RG, RP, true_and, and_true, beq_true, beq_false, Bool.true_beq, Bool.false_beq, BEq.rfl, Int.reduceEq, Int.reduceLT, Int.reduceLE, Nat.reduceEqDiff, decide_true, decide_false, Bool.not_true, Bool.not_false, Bool.and_true, Bool.true_and, Bool.and_false, Bool.false_and, Bool.or_true, Bool.true_or, Bool.or_false, Bool.false_or, Bool.not_not, e2]
  refine s_stripe_Table_Load (ls := List.replicate k zeroLock) ?_
  have e3 : loadRes (List.replicate k zeroLock) ((j % k : Nat) : Int) = (⟨0, false, 0⟩, 0) := by
    unfold loadRes; rw [hlen, inLen_nat hj]; simp only [Int.toNat_natCast, if_true]; rw [getD_lock (by rw [hlen]; exact hj)]; simp [zeroLock]
  rw [e3]
  try simp (maxSteps := 2000000) only [↓RG, RP, true_and, and_true, beq_true, beq_false, Bool.true_beq, Bool.false_beq, BEq.rfl, Int.reduceEq, Int.reduceLT, Int.reduceLE, Nat.reduceEqDiff, decide_true, decide_false, Bool.not_true, Bool.not_false, Bool.and_true, Bool.true_and, Bool.and_false, Bool.false_and, Bool.or_true, Bool.true_or, Bool.or_false, Bool.false_or, Bool.not_not]
  refine G.new fun p => ?_
  try simp (maxSteps := 2000000) only [↓RG, RP, true_and, and_true, beq_true, beq_false, Bool.true_beq, Bool.false_beq, BEq.rfl, Int.reduceEq, Int.reduceLT, Int.reduceLE, Nat.reduceEqDiff, decide_true, decide_false, Bool.not_true, Bool.not_false, Bool.and_true, Bool.true_and, Bool.and_false, Bool.false_and, Bool.or_true, Bool.true_or, Bool.or_false, Bool.false_or, Bool.not_not]
  refine G.loop1 (fun x : Nat => i64 x) (fun x => own p [u64 0, .bool false, i64 0] :: ob TableR b (onceTab k (j % k) (IntKind.wrap .i64 ((os.getD 0 0).tmod 4)) x, 1) :: L) (fun x => x ≤ os.length) (fun x => os.length - x) 0 rfl rfl (by simp) ?_
  intro x hx J hJ
  try simp (maxSteps := 2000000) only [↓RG, RP, true_and, and_true, beq_true, beq_false, Bool.true_beq, Bool.false_beq, BEq.rfl, Int.reduceEq, Int.reduceLT, Int.reduceLE, Nat.reduceEqDiff, decide_true, decide_false, Bool.not_true, Bool.not_false, Bool.and_true, Bool.true_and, Bool.and_false, Bool.false_and, Bool.or_true, Bool.true_or, Bool.or_false, Bool.false_or, Bool.not_not]
  refine G.cond (fun h => ?_) (fun h => ?_)
  · have hx : x < os.length ∧ x < 20 := by simp at h; omega
    have hx1 := hx.1
    have e := elem_of hx1
    have ho := hos os[x] (List.getElem_mem hx1)
    try simp (maxSteps := 2000000) only [↓RG, RP, true_and, and_true, beq_true, beq_false, Bool.true_beq, Bool.false_beq, BEq.rfl, Int.reduceEq, Int.reduceLT, Int.reduceLE, Nat.reduceEqDiff, decide_true, decide_false, Bool.not_true, Bool.not_false, Bool.and_true, Bool.true_and, Bool.and_false, Bool.false_and, Bool.or_true, Bool.true_or, Bool.or_false, Bool.false_or, Bool.not_not]
    refine s_stripe_Table_Cas (ls := onceTab k (j % k) (IntKind.wrap .i64 ((os.getD 0 0).tmod 4)) x) ?_
    have hw : IntKind.wrap .i64 (os[x].tmod 4) = os[x] % 4 := by
      rw [Int.tmod_eq_emod_of_nonneg ho.1, wi64 (by omega) (by omega)]
    rw [onceTab_cas hj x (by rw [hw]; omega) (fun h => by subst h; simp [hx1])]
    have d : decide ((x : Int) = 0) = decide (x = 0) := by simp
    try simp (maxSteps := 2000000) only [↓RG, RP, true_and, and_true, beq_true, beq_false, Bool.true_beq, Bool.false_beq, BEq.rfl, Int.reduceEq, Int.reduceLT, Int.reduceLE, Nat.reduceEqDiff, decide_true, decide_false, Bool.not_true, Bool.not_false, Bool.and_true, Bool.true_and, Bool.and_false, Bool.false_and, Bool.or_true, Bool.true_or, Bool.or_false, Bool.false_or, Bool.not_not, d]
    rw [wsucc (by omega)]
    exact (hJ (x + 1) hx1 (by omega)).sub
  · refine s_stripe_Table_Load (ls := onceTab k (j % k) (IntKind.wrap .i64 ((os.getD 0 0).tmod 4)) x) ?_
    rw [onceTab_load hj]
    try simp (maxSteps := 2000000) only [↓RG, RP, true_and, and_true, beq_true, beq_false, Bool.true_beq, Bool.false_beq, BEq.rfl, Int.reduceEq, Int.reduceLT, Int.reduceLE, Nat.reduceEqDiff, decide_true, decide_false, Bool.not_true, Bool.not_false, Bool.and_true, Bool.true_and, Bool.and_false, Bool.false_and, Bool.or_true, Bool.true_or, Bool.or_false, Bool.false_or, Bool.not_not]
    refine G.new fun q => ?_
    try simp (maxSteps := 2000000) only [↓RG, RP, true_and, and_true, beq_true, beq_false, Bool.true_beq, Bool.false_beq, BEq.rfl, Int.reduceEq, Int.reduceLT, Int.reduceLE, Nat.reduceEqDiff, decide_true, decide_false, Bool.not_true, Bool.not_false, Bool.and_true, Bool.true_and, Bool.and_false, Bool.false_and, Bool.or_true, Bool.true_or, Bool.or_false, Bool.false_or, Bool.not_not]
    refine G.drew ?_
    by_cases hz : os.length = 0
    · have : x = 0 := by omega
      subst this
      have z : decide ((os.length : Int) = 0) = true := by simp [hz]
      simp only [if_true]
      try simp (maxSteps := 2000000) only [↓RG, RP, true_and, and_true, beq_true, beq_false, Bool.true_beq, Bool.false_beq, BEq.rfl, Int.reduceEq, Int.reduceLT, Int.reduceLE, Nat.reduceEqDiff, decide_true, decide_false, Bool.not_true, Bool.not_false, Bool.and_true, Bool.true_and, Bool.and_false, Bool.false_and, Bool.or_true, Bool.true_or, Bool.or_false, Bool.false_or, Bool.not_not, z]
      exact hK.sub
    · have : x ≠ 0 := by rintro rfl; simp only [Bool.and_eq_false_iff, decide_eq_false_iff_not] at h; omega
      have z : decide ((os.length : Int) = 0) = false := decide_eq_false (by omega)
      have z2 : decide ((os.length : Int) > 0) = true := decide_eq_true (by omega)
      have e0 := elem_of (show 0 < os.length by omega)
      simp only [this, if_false]
      try simp (maxSteps := 2000000) only [↓RG, RP, true_and, and_true, beq_true, beq_false, Bool.true_beq, Bool.false_beq, BEq.rfl, Int.reduceEq, Int.reduceLT, Int.reduceLE, Nat.reduceEqDiff, decide_true, decide_false, Bool.not_true, Bool.not_false, Bool.and_true, Bool.true_and, Bool.and_false, Bool.false_and, Bool.or_true, Bool.true_or, Bool.or_false, Bool.false_or, Bool.not_not, z, z2]
      have hg : os.getD 0 0 = os[0] := by simp [show 0 < os.length by omega]
      rw [hg]
      simp only [decide_true]
      exact hK.sub

end
end Go.Proofs.Ytaghnmllaghcbaa.S
