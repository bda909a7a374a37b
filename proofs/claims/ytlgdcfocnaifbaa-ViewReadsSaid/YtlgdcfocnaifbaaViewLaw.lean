/-
  CHAPTER 10: the statements' own functions (without the reference).
-/
import Derived.Test.YtlgdcfocnaifbaaView
namespace Go.Proofs.Ytlgdcfocnaifbaa.S
open Go Go.Proofs
set_option linter.unusedVariables false
set_option linter.unusedSimpArgs false

/-- the first j words of a heap, all known -/
def knW (ws : List Int) (j : Nat) : List TCell := (List.range j).map fun i : Nat => ⟨(i : Int) + 1, ws.getD (i + 1) 0⟩
theorem knW_succ {ws : List Int} {j : Nat} : knW ws (j + 1) = knW ws j ++ [⟨(j : Int) + 1, ws.getD (j + 1) 0⟩] := by
  unfold knW; rw [List.range_succ, List.map_append]; rfl
theorem knW_len {ws : List Int} {j : Nat} : (knW ws j).length = j := by simp [knW]
theorem knW_none {ws : List Int} : ∀ {j : Nat} {a : Int}, (j : Int) < a → lookC (knW ws j) a = none
  | 0, a, _ => rfl
  | j + 1, a, h => by
    have h0 := knW_none (ws := ws) (j := j) (a := (j : Int) + 1) (by omega)
    rw [knW_succ, lookC_append h0, if_neg (by omega)]
    exact knW_none (by omega)
theorem wrap_next (y : Int) : ¬ IntKind.wrap .u64 (y + 1) = y := by
  intro h
  have h2 : IntKind.wrap .u64 (y + 1) = (y + 1) % 18446744073709551616 := by simp [IntKind.wrap, IntKind.signed, IntKind.bits, IntKind.min, IntKind.max]
  omega

def vNew (w m : Int) : VwS := ⟨(held w 32 256).toNat, [], ⟨held m 0 96, ⟨[], []⟩, []⟩, 0⟩
def vAll (ws : List Int) (m : Int) : VwS := ⟨(held ws.length 32 256).toNat, knW ws ((held ws.length 32 256).toNat - 1), ⟨held m 0 96, ⟨[], []⟩, []⟩, 0⟩

section
variable {w0 : Base} {L M : List Asn} {K : KV} {F : World → Prop} {C : Asn → List Asn} {b : Nat} {s : VwS} {v : Value}

theorem s_view_Whole {ws : List Int} {m : Int} [r : Rd w0 L v wordE 1 ws] (hl : ws.length ≤ 1000) (hK : ∀ b, G w0 (ob ViewR b (vAll ws m) :: L) (K (ptr b 0))) : G w0 L (CP Try.prog Fn.view_Whole [v, i64 m] K) := by
  have hb := held_le (n := (ws.length : Int)) (show (32 : Int) ≤ 256 by omega)
  refine C_view_Whole ?_
  unfold S_view_Whole
  try simp (maxSteps := 2000000) only [↓RG, RP, true_and, and_true, beq_true, beq_false, Bool.true_beq, Bool.false_beq, BEq.rfl, Int.reduceEq, Int.reduceLT, Int.reduceLE, Nat.reduceEqDiff, decide_true, decide_false, Bool.not_true, Bool.not_false, Bool.and_true, Bool.true_and, Bool.and_false, Bool.false_and, Bool.or_true, Bool.true_or, Bool.or_false, Bool.false_or, Bool.not_not]
  refine s_view_New fun b => ?_
  have hK := hK b
  unfold vAll at hK
  generalize hN : (held (ws.length : Int) 32 256).toNat = N at hK
  have hN1 : 32 ≤ N ∧ N ≤ 256 := by omega
  refine G.loop1 (fun j : Nat => i64 (j + 1 : Nat)) (fun j => ob ViewR b ⟨N, knW ws j, ⟨held m 0 96, ⟨[], []⟩, []⟩, 0⟩ :: L) (fun j => j ≤ N - 1) (fun j => N - j) 0 rfl rfl (by simp) ?_
  intro j hj J hJ
  refine s_view_Size (s := ⟨N, knW ws j, ⟨held m 0 96, ⟨[], []⟩, []⟩, 0⟩) ?_
  try simp (maxSteps := 2000000) only [↓RG, RP, true_and, and_true, beq_true, beq_false, Bool.true_beq, Bool.false_beq, BEq.rfl, Int.reduceEq, Int.reduceLT, Int.reduceLE, Nat.reduceEqDiff, decide_true, decide_false, Bool.not_true, Bool.not_false, Bool.and_true, Bool.true_and, Bool.and_false, Bool.false_and, Bool.or_true, Bool.true_or, Bool.or_false, Bool.false_or, Bool.not_not]
  refine G.cond (fun h => ?_) (fun h => ?_)
  · have hj2 : j + 1 < N := by simp at h; omega
    try simp (maxSteps := 2000000) only [↓RG, RP, true_and, and_true, beq_true, beq_false, Bool.true_beq, Bool.false_beq, BEq.rfl, Int.reduceEq, Int.reduceLT, Int.reduceLE, Nat.reduceEqDiff, decide_true, decide_false, Bool.not_true, Bool.not_false, Bool.and_true, Bool.true_and, Bool.and_false, Bool.false_and, Bool.or_true, Bool.true_or, Bool.or_false, Bool.false_or, Bool.not_not]
    refine G.join1 (fun x : Int => u64 x) (fun _ => ob ViewR b ⟨N, knW ws j, ⟨held m 0 96, ⟨[], []⟩, []⟩, 0⟩ :: L) (fun x => x = ws.getD (j + 1) 0) ?_ (fun J2 hJ2 => ?_)
    · intro x hx
      subst hx
      refine s_view_Know (s := ⟨N, knW ws j, ⟨held m 0 96, ⟨[], []⟩, []⟩, 0⟩) (by simp only [knW_len]; omega) ?_
      have e : vKnow ⟨N, knW ws j, ⟨held m 0 96, ⟨[], []⟩, []⟩, 0⟩ ((j + 1 : Nat) : Int) (ws.getD (j + 1) 0) = (⟨N, knW ws (j + 1), ⟨held m 0 96, ⟨[], []⟩, []⟩, 0⟩, 0) := by
        unfold vKnow
        rw [if_pos (by simp [isV]; omega)]
        have hn : lookC (knW ws j) ((j + 1 : Nat) : Int) = none := knW_none (by omega)
        simp only [hn]
        rw [knW_succ]; rfl
      rw [e]
      try simp (maxSteps := 2000000) only [↓RG, RP, true_and, and_true, beq_true, beq_false, Bool.true_beq, Bool.false_beq, BEq.rfl, Int.reduceEq, Int.reduceLT, Int.reduceLE, Nat.reduceEqDiff, decide_true, decide_false, Bool.not_true, Bool.not_false, Bool.and_true, Bool.true_and, Bool.and_false, Bool.false_and, Bool.or_true, Bool.true_or, Bool.or_false, Bool.false_or, Bool.not_not]
      rw [wsucc (by omega)]
      exact hJ (j + 1) (by omega) (by omega)
    · refine G.cond (fun h2 => ?_) (fun h2 => ?_)
      · have hj3 : j + 1 < ws.length := by simp at h2; omega
        have e := elem_of hj3
        try simp (maxSteps := 2000000) only [↓RG, RP, true_and, and_true, beq_true, beq_false, Bool.true_beq, Bool.false_beq, BEq.rfl, Int.reduceEq, Int.reduceLT, Int.reduceLE, Nat.reduceEqDiff, decide_true, decide_false, Bool.not_true, Bool.not_false, Bool.and_true, Bool.true_and, Bool.and_false, Bool.false_and, Bool.or_true, Bool.true_or, Bool.or_false, Bool.false_or, Bool.not_not]
        exact hJ2 _ (by simp [hj3])
      · have hj3 : ¬ j + 1 < ws.length := by simp at h2; omega
        exact hJ2 0 (by rw [List.getD_eq_getElem?_getD, List.getElem?_eq_none (by omega)]; rfl)
  · have hj2 : j = N - 1 := by simp at h; omega
    rw [hj2]
    exact hK

set_option maxRecDepth 4000 in
theorem s_law10_ViewRuns (hK : G w0 L (K (.bool true))) : G w0 L (CP Try.prog Fn.law10_ViewRuns [] K) := by
  refine C_law10_ViewRuns ?_
  unfold S_law10_ViewRuns
  refine s_view_New fun b => ?_
  rw [show (held 40 32 256).toNat = 40 from rfl, show held 9 0 96 = 9 from rfl]
  try simp (maxSteps := 2000000) only [↓RG, RP, true_and, and_true, beq_true, beq_false, Bool.true_beq, Bool.false_beq, BEq.rfl, Int.reduceEq, Int.reduceLT, Int.reduceLE, Nat.reduceEqDiff, decide_true, decide_false, Bool.not_true, Bool.not_false, Bool.and_true, Bool.true_and, Bool.and_false, Bool.false_and, Bool.or_true, Bool.true_or, Bool.or_false, Bool.false_or, Bool.not_not]
  refine s_view_Read (s := ⟨40, [], ⟨9, ⟨[], []⟩, []⟩, 0⟩) ?_
  rw [show vRead ⟨40, [], ⟨9, ⟨[], []⟩, []⟩, 0⟩ 7 = (⟨40, [], ⟨9, ⟨[], []⟩, []⟩, 7⟩, 0, 11) from rfl]
  try simp (maxSteps := 2000000) only [↓RG, RP, true_and, and_true, beq_true, beq_false, Bool.true_beq, Bool.false_beq, BEq.rfl, Int.reduceEq, Int.reduceLT, Int.reduceLE, Nat.reduceEqDiff, decide_true, decide_false, Bool.not_true, Bool.not_false, Bool.and_true, Bool.true_and, Bool.and_false, Bool.false_and, Bool.or_true, Bool.true_or, Bool.or_false, Bool.false_or, Bool.not_not]
  refine s_view_Need (s := ⟨40, [], ⟨9, ⟨[], []⟩, []⟩, 7⟩) ?_
  refine s_view_Know (s := ⟨40, [], ⟨9, ⟨[], []⟩, []⟩, 7⟩) (by simp) ?_
  rw [show vKnow ⟨40, [], ⟨9, ⟨[], []⟩, []⟩, 7⟩ 7 5 = (⟨40, [⟨7, 5⟩], ⟨9, ⟨[], []⟩, []⟩, 7⟩, 0) from rfl]
  refine s_view_Read (s := ⟨40, [⟨7, 5⟩], ⟨9, ⟨[], []⟩, []⟩, 7⟩) ?_
  rw [show vRead ⟨40, [⟨7, 5⟩], ⟨9, ⟨[], []⟩, []⟩, 7⟩ 7 = (⟨40, [⟨7, 5⟩], ⟨9, ⟨[], []⟩, []⟩, 7⟩, 5, 0) from rfl]
  try simp (maxSteps := 2000000) only [↓RG, RP, true_and, and_true, beq_true, beq_false, Bool.true_beq, Bool.false_beq, BEq.rfl, Int.reduceEq, Int.reduceLT, Int.reduceLE, Nat.reduceEqDiff, decide_true, decide_false, Bool.not_true, Bool.not_false, Bool.and_true, Bool.true_and, Bool.and_false, Bool.false_and, Bool.or_true, Bool.true_or, Bool.or_false, Bool.false_or, Bool.not_not]
  refine s_view_Write (s := ⟨40, [⟨7, 5⟩], ⟨9, ⟨[], []⟩, []⟩, 7⟩) ?_
  rw [show vWrite ⟨40, [⟨7, 5⟩], ⟨9, ⟨[], []⟩, []⟩, 7⟩ 7 6 = (⟨40, [⟨7, 5⟩], ⟨9, ⟨[⟨7, 6⟩], []⟩, []⟩, 7⟩, 0) from rfl]
  refine s_view_Read (s := ⟨40, [⟨7, 5⟩], ⟨9, ⟨[⟨7, 6⟩], []⟩, []⟩, 7⟩) ?_
  rw [show vRead ⟨40, [⟨7, 5⟩], ⟨9, ⟨[⟨7, 6⟩], []⟩, []⟩, 7⟩ 7 = (⟨40, [⟨7, 5⟩], ⟨9, ⟨[⟨7, 6⟩], []⟩, []⟩, 7⟩, 6, 0) from rfl]
  try simp (maxSteps := 2000000) only [↓RG, RP, true_and, and_true, beq_true, beq_false, Bool.true_beq, Bool.false_beq, BEq.rfl, Int.reduceEq, Int.reduceLT, Int.reduceLE, Nat.reduceEqDiff, decide_true, decide_false, Bool.not_true, Bool.not_false, Bool.and_true, Bool.true_and, Bool.and_false, Bool.false_and, Bool.or_true, Bool.true_or, Bool.or_false, Bool.false_or, Bool.not_not]
  refine s_view_Known (s := ⟨40, [⟨7, 5⟩], ⟨9, ⟨[⟨7, 6⟩], []⟩, []⟩, 7⟩) (by simp) fun u hu => ?_
  refine G.make (n := 40) wordE 0 rfl (by simp [maxLen]) (by omega) fun u2 hu2 => ?_
  refine s_view_Whole (ws := List.replicate 40 0) (m := 9) (by simp) fun d => ?_
  have e39 : (vAll (List.replicate 40 0) 9).k.length = 39 := by
    unfold vAll; simp only [knW_len, List.length_replicate]; rfl
  generalize vAll (List.replicate 40 0) 9 = z at e39 ⊢
  try simp [↓RG, RP]
  refine s_view_Size (b := b) (s := ⟨40, [⟨7, 5⟩], ⟨9, ⟨[⟨7, 6⟩], []⟩, []⟩, 7⟩) ?_
  try simp [↓RG, RP]
  refine s_view_Known (b := d) (s := z) (by omega) fun u3 hu3 => ?_
  try simp (maxSteps := 2000000) only [↓RG, RP, true_and, and_true, beq_true, beq_false, Bool.true_beq, Bool.false_beq, BEq.rfl, Int.reduceEq, Int.reduceLT, Int.reduceLE, Nat.reduceEqDiff, decide_true, decide_false, Bool.not_true, Bool.not_false, Bool.and_true, Bool.true_and, Bool.and_false, Bool.false_and, Bool.or_true, Bool.true_or, Bool.or_false, Bool.false_or, Bool.not_not, e39]
  try simp [↓RG, RP]
  exact hK.sub

theorem lookC_idx {k : List TCell} {a y : Int} (h : lookC k a = some y) : ∃ m, idxC k a = some m ∧ ∃ hm : m < k.length, k[m].word = y := by
  have := idxC_isSome (cs := k) (a := a)
  rw [h] at this
  cases hi : idxC k a with
  | none => rw [hi] at this; cases this
  | some m =>
    obtain ⟨h1, _, _, h4⟩ := idxC_some hi
    rw [h] at h4
    exact ⟨m, rfl, h1, (Option.some.inj h4).symm⟩

set_option maxHeartbeats 1000000 in
theorem s_law10_ViewStale {l : Value} {qs : List TCell} {a x : Int} [r : Arg w0 l tCellE qs] (hK : G w0 L (K (.bool true))) : G w0 L (CP Try.prog Fn.law10_ViewStale [l, .int .u8 a, u64 x] K) := by
  refine C_law10_ViewStale ?_
  unfold S_law10_ViewStale
  refine s_law10_ViewRuns ?_
  try simp (maxSteps := 2000000) only [fuse_and, fuse_or, fuse_step, fuse_pair, fuse_in, andP_true]
  try simp (maxSteps := 2000000) only [↓RG, RP, true_and, and_true, beq_true, beq_false, Bool.true_beq, Bool.false_beq, BEq.rfl, Int.reduceEq, Int.reduceLT, Int.reduceLE, Nat.reduceEqDiff, decide_true, decide_false, Bool.not_true, Bool.not_false, Bool.and_true, Bool.true_and, Bool.and_false, Bool.false_and, Bool.or_true, Bool.true_or, Bool.or_false, Bool.false_or, Bool.not_not]
  refine s_view_New fun b => ?_
  rw [show (held 256 32 256).toNat = 256 from rfl, show held 96 0 96 = 96 from rfl]
  try simp (maxSteps := 2000000) only [↓RG, RP, true_and, and_true, beq_true, beq_false, Bool.true_beq, Bool.false_beq, BEq.rfl, Int.reduceEq, Int.reduceLT, Int.reduceLE, Nat.reduceEqDiff, decide_true, decide_false, Bool.not_true, Bool.not_false, Bool.and_true, Bool.true_and, Bool.and_false, Bool.false_and, Bool.or_true, Bool.true_or, Bool.or_false, Bool.false_or, Bool.not_not]
  refine G.loop1 (σ := Nat × List TCell × List TCell) (fun z => i64 z.1) (fun z => ob ViewR b ⟨256, z.2.1, ⟨96, ⟨z.2.2, []⟩, []⟩, 0⟩ :: L) (fun z => z.1 ≤ qs.length ∧ z.1 ≤ 40 ∧ z.2.1.length ≤ z.1 ∧ z.2.2.length ≤ z.1) (fun z => qs.length - z.1) (0, [], []) rfl rfl ⟨by simp, by simp, by simp, by simp⟩ ?_
  rintro ⟨j, k, cs⟩ ⟨hj, hj40, hk, hcs⟩ J hJ
  simp only at hj hj40 hk hcs hJ ⊢
  try simp (maxSteps := 2000000) only [↓RG, RP, true_and, and_true, beq_true, beq_false, Bool.true_beq, Bool.false_beq, BEq.rfl, Int.reduceEq, Int.reduceLT, Int.reduceLE, Nat.reduceEqDiff, decide_true, decide_false, Bool.not_true, Bool.not_false, Bool.and_true, Bool.true_and, Bool.and_false, Bool.false_and, Bool.or_true, Bool.true_or, Bool.or_false, Bool.false_or, Bool.not_not]
  refine G.cond (fun h => ?_) (fun h => ?_)
  · have hj2 : j < qs.length ∧ j < 40 := by simp at h; omega
    obtain ⟨q, e⟩ : ∃ q, Elem qs j q := ⟨_, elem_of hj2.1⟩
    obtain ⟨c, w⟩ := q
    try simp (maxSteps := 2000000) only [↓RG, RP, true_and, and_true, beq_true, beq_false, Bool.true_beq, Bool.false_beq, BEq.rfl, Int.reduceEq, Int.reduceLT, Int.reduceLE, Nat.reduceEqDiff, decide_true, decide_false, Bool.not_true, Bool.not_false, Bool.and_true, Bool.true_and, Bool.and_false, Bool.false_and, Bool.or_true, Bool.true_or, Bool.or_false, Bool.false_or, Bool.not_not]
    refine G.new fun p => ?_
    try simp (maxSteps := 2000000) only [↓RG, RP, true_and, and_true, beq_true, beq_false, Bool.true_beq, Bool.false_beq, BEq.rfl, Int.reduceEq, Int.reduceLT, Int.reduceLE, Nat.reduceEqDiff, decide_true, decide_false, Bool.not_true, Bool.not_false, Bool.and_true, Bool.true_and, Bool.and_false, Bool.false_and, Bool.or_true, Bool.true_or, Bool.or_false, Bool.false_or, Bool.not_not]
    refine s_book_Within (by omega) (by omega) (by omega) (by omega) ?_
    have hw := within_le (n := c) (show (1 : Int) ≤ 255 by omega)
    generalize within c 1 255 = at_ at hw ⊢
    try simp (maxSteps := 2000000) only [↓RG, RP, true_and, and_true, beq_true, beq_false, Bool.true_beq, Bool.false_beq, BEq.rfl, Int.reduceEq, Int.reduceLT, Int.reduceLE, Nat.reduceEqDiff, decide_true, decide_false, Bool.not_true, Bool.not_false, Bool.and_true, Bool.true_and, Bool.and_false, Bool.false_and, Bool.or_true, Bool.true_or, Bool.or_false, Bool.false_or, Bool.not_not]
    refine s_view_Know (b := b) (s := ⟨256, k, ⟨96, ⟨cs, []⟩, []⟩, 0⟩) (by show k.length ≤ 1000000; omega) ?_
    have hv : ∀ (k : List TCell) (l : LvS), isV ⟨256, k, l, 0⟩ at_ = true := fun k l => by simp [isV]; omega
    obtain ⟨k', y, ev, hy, hk'⟩ : ∃ (k' : List TCell) (y : Int), vKnow ⟨256, k, ⟨96, ⟨cs, []⟩, []⟩, 0⟩ at_ w = (⟨256, k', ⟨96, ⟨cs, []⟩, []⟩, 0⟩, if y = w then 0 else 14) ∧ lookC k' at_ = some y ∧ k'.length ≤ j + 1 := by
      unfold vKnow
      rw [if_pos (hv _ _)]
      cases hl : lookC k at_ with
      | some y => exact ⟨k, y, by simp only [hl], hl, by omega⟩
      | none => exact ⟨k ++ [⟨at_, w⟩], w, by simp only [hl, if_true], by rw [lookC_append hl]; simp, by simp; omega⟩
    rw [ev]
    obtain ⟨m, hi, hm, hmw⟩ := lookC_idx hy
    have em := elem_of hm
    have hm0 : ¬ (m : Int) < 0 := by omega
    refine s_view_Known (b := b) (s := ⟨256, k', ⟨96, ⟨cs, []⟩, []⟩, 0⟩) (by show k'.length ≤ 1000000; omega) fun u hu => ?_
    try simp (maxSteps := 2000000) only [↓RG, RP, true_and, and_true, beq_true, beq_false, Bool.true_beq, Bool.false_beq, BEq.rfl, Int.reduceEq, Int.reduceLT, Int.reduceLE, Nat.reduceEqDiff, decide_true, decide_false, Bool.not_true, Bool.not_false, Bool.and_true, Bool.true_and, Bool.and_false, Bool.false_and, Bool.or_true, Bool.true_or, Bool.or_false, Bool.false_or, Bool.not_not]
    refine s_ref7_Place (cs := k') (by omega) ?_
    rw [idxI_some hi]
    have hkn : ∀ (x : Int) (cs : List TCell), vKnow ⟨256, k', ⟨96, ⟨cs, []⟩, []⟩, 0⟩ at_ x = (⟨256, k', ⟨96, ⟨cs, []⟩, []⟩, 0⟩, if y = x then 0 else 14) := fun x cs => by
      unfold vKnow; rw [if_pos (hv _ _)]; simp only [hy]
    have hwr : vWrite ⟨256, k', ⟨96, ⟨cs, []⟩, []⟩, 0⟩ at_ x = (⟨256, k', ⟨96, ⟨putC cs at_ x, []⟩, []⟩, 0⟩, 0) := by
      have h0 : lErr ⟨96, ⟨cs, []⟩, []⟩ at_ = 0 := by
        unfold lErr
        rw [if_pos (okAt_iff.2 ⟨by omega, by omega⟩)]
        split
        · rfl
        · rw [if_neg]
          simp only [LvS.room, totalC_cons]
          simp [totalC]; omega
      unfold vWrite
      rw [if_pos (hv _ _)]
      simp only [h0, if_true]; rfl
    have hne : ¬ y = IntKind.wrap .u64 (y + 1) := fun e => wrap_next y e.symm
    have hpl := putC_le (cs := cs) (a := at_) (x := x)
    have fin := hJ (j + 1, k', putC cs at_ x) ⟨hj2.1, hj2.2, hk', by simp only; omega⟩ (by simp; omega)
    by_cases hyw : y = w
    · subst hyw
      rw [if_pos rfl]
      repeat' (first | (with_reducible refine G.joini0 ?_) | (with_reducible refine G.joini1 ?_) | (with_reducible refine G.drew ?_) | (simp (maxSteps := 2000000) only [↓RG, RP, true_and, and_true, beq_true, beq_false, Bool.true_beq, Bool.false_beq, BEq.rfl, Int.reduceEq, Int.reduceLT, Int.reduceLE, Nat.reduceEqDiff, decide_true, decide_false, Bool.not_true, Bool.not_false, Bool.and_true, Bool.true_and, Bool.and_false, Bool.false_and, Bool.or_true, Bool.true_or, Bool.or_false, Bool.false_or, Bool.not_not, hm0, hmw]))
      refine s_view_Write (b := b) (s := ⟨256, k', ⟨96, ⟨cs, []⟩, []⟩, 0⟩) ?_
      rw [hwr]
      repeat' (first | (with_reducible refine G.joini0 ?_) | (with_reducible refine G.joini1 ?_) | (with_reducible refine G.drew ?_) | (simp (maxSteps := 2000000) only [↓RG, RP, true_and, and_true, beq_true, beq_false, Bool.true_beq, Bool.false_beq, BEq.rfl, Int.reduceEq, Int.reduceLT, Int.reduceLE, Nat.reduceEqDiff, decide_true, decide_false, Bool.not_true, Bool.not_false, Bool.and_true, Bool.true_and, Bool.and_false, Bool.false_and, Bool.or_true, Bool.true_or, Bool.or_false, Bool.false_or, Bool.not_not, hmw]))
      refine s_view_Know (b := b) (s := ⟨256, k', ⟨96, ⟨putC cs at_ x, []⟩, []⟩, 0⟩) (by show k'.length ≤ 1000000; omega) ?_
      rw [hkn, if_pos rfl]
      repeat' (first | (with_reducible refine G.joini0 ?_) | (with_reducible refine G.joini1 ?_) | (with_reducible refine G.drew ?_) | (simp (maxSteps := 2000000) only [↓RG, RP, true_and, and_true, beq_true, beq_false, Bool.true_beq, Bool.false_beq, BEq.rfl, Int.reduceEq, Int.reduceLT, Int.reduceLE, Nat.reduceEqDiff, decide_true, decide_false, Bool.not_true, Bool.not_false, Bool.and_true, Bool.true_and, Bool.and_false, Bool.false_and, Bool.or_true, Bool.true_or, Bool.or_false, Bool.false_or, Bool.not_not, hmw]))
      refine s_view_Know (b := b) (s := ⟨256, k', ⟨96, ⟨putC cs at_ x, []⟩, []⟩, 0⟩) (by show k'.length ≤ 1000000; omega) ?_
      rw [hkn, if_neg hne]
      repeat' (first | (with_reducible refine G.joini0 ?_) | (with_reducible refine G.joini1 ?_) | (with_reducible refine G.drew ?_) | (simp (maxSteps := 2000000) only [↓RG, RP, true_and, and_true, beq_true, beq_false, Bool.true_beq, Bool.false_beq, BEq.rfl, Int.reduceEq, Int.reduceLT, Int.reduceLE, Nat.reduceEqDiff, decide_true, decide_false, Bool.not_true, Bool.not_false, Bool.and_true, Bool.true_and, Bool.and_false, Bool.false_and, Bool.or_true, Bool.true_or, Bool.or_false, Bool.false_or, Bool.not_not, hmw]))
      refine s_view_Known (b := b) (s := ⟨256, k', ⟨96, ⟨putC cs at_ x, []⟩, []⟩, 0⟩) (by show k'.length ≤ 1000000; omega) fun u2 hu2 => ?_
      repeat' (first | (with_reducible refine G.joini0 ?_) | (with_reducible refine G.joini1 ?_) | (with_reducible refine G.drew ?_) | (simp (maxSteps := 2000000) only [↓RG, RP, true_and, and_true, beq_true, beq_false, Bool.true_beq, Bool.false_beq, BEq.rfl, Int.reduceEq, Int.reduceLT, Int.reduceLE, Nat.reduceEqDiff, decide_true, decide_false, Bool.not_true, Bool.not_false, Bool.and_true, Bool.true_and, Bool.and_false, Bool.false_and, Bool.or_true, Bool.true_or, Bool.or_false, Bool.false_or, Bool.not_not]))
      refine s_book_Same_api_Cell (xs := k') (ys := k') (by omega) ?_
      repeat' (first | (with_reducible refine G.joini0 ?_) | (with_reducible refine G.joini1 ?_) | (with_reducible refine G.drew ?_) | (simp (maxSteps := 2000000) only [↓RG, RP, true_and, and_true, beq_true, beq_false, Bool.true_beq, Bool.false_beq, BEq.rfl, Int.reduceEq, Int.reduceLT, Int.reduceLE, Nat.reduceEqDiff, decide_true, decide_false, Bool.not_true, Bool.not_false, Bool.and_true, Bool.true_and, Bool.and_false, Bool.false_and, Bool.or_true, Bool.true_or, Bool.or_false, Bool.false_or, Bool.not_not]))
      rw [wsucc (by omega)]
      exact fin.sub
    · have hyw2 : ¬ y = w := hyw
      rw [if_neg hyw]
      repeat' (first | (with_reducible refine G.joini0 ?_) | (with_reducible refine G.joini1 ?_) | (with_reducible refine G.drew ?_) | (simp (maxSteps := 2000000) only [↓RG, RP, true_and, and_true, beq_true, beq_false, Bool.true_beq, Bool.false_beq, BEq.rfl, Int.reduceEq, Int.reduceLT, Int.reduceLE, Nat.reduceEqDiff, decide_true, decide_false, Bool.not_true, Bool.not_false, Bool.and_true, Bool.true_and, Bool.and_false, Bool.false_and, Bool.or_true, Bool.true_or, Bool.or_false, Bool.false_or, Bool.not_not, hm0, hmw, hyw2]))
      refine s_view_Write (b := b) (s := ⟨256, k', ⟨96, ⟨cs, []⟩, []⟩, 0⟩) ?_
      rw [hwr]
      repeat' (first | (with_reducible refine G.joini0 ?_) | (with_reducible refine G.joini1 ?_) | (with_reducible refine G.drew ?_) | (simp (maxSteps := 2000000) only [↓RG, RP, true_and, and_true, beq_true, beq_false, Bool.true_beq, Bool.false_beq, BEq.rfl, Int.reduceEq, Int.reduceLT, Int.reduceLE, Nat.reduceEqDiff, decide_true, decide_false, Bool.not_true, Bool.not_false, Bool.and_true, Bool.true_and, Bool.and_false, Bool.false_and, Bool.or_true, Bool.true_or, Bool.or_false, Bool.false_or, Bool.not_not, hmw]))
      refine s_view_Know (b := b) (s := ⟨256, k', ⟨96, ⟨putC cs at_ x, []⟩, []⟩, 0⟩) (by show k'.length ≤ 1000000; omega) ?_
      rw [hkn, if_pos rfl]
      repeat' (first | (with_reducible refine G.joini0 ?_) | (with_reducible refine G.joini1 ?_) | (with_reducible refine G.drew ?_) | (simp (maxSteps := 2000000) only [↓RG, RP, true_and, and_true, beq_true, beq_false, Bool.true_beq, Bool.false_beq, BEq.rfl, Int.reduceEq, Int.reduceLT, Int.reduceLE, Nat.reduceEqDiff, decide_true, decide_false, Bool.not_true, Bool.not_false, Bool.and_true, Bool.true_and, Bool.and_false, Bool.false_and, Bool.or_true, Bool.true_or, Bool.or_false, Bool.false_or, Bool.not_not, hmw]))
      refine s_view_Know (b := b) (s := ⟨256, k', ⟨96, ⟨putC cs at_ x, []⟩, []⟩, 0⟩) (by show k'.length ≤ 1000000; omega) ?_
      rw [hkn, if_neg hne]
      repeat' (first | (with_reducible refine G.joini0 ?_) | (with_reducible refine G.joini1 ?_) | (with_reducible refine G.drew ?_) | (simp (maxSteps := 2000000) only [↓RG, RP, true_and, and_true, beq_true, beq_false, Bool.true_beq, Bool.false_beq, BEq.rfl, Int.reduceEq, Int.reduceLT, Int.reduceLE, Nat.reduceEqDiff, decide_true, decide_false, Bool.not_true, Bool.not_false, Bool.and_true, Bool.true_and, Bool.and_false, Bool.false_and, Bool.or_true, Bool.true_or, Bool.or_false, Bool.false_or, Bool.not_not, hmw]))
      refine s_view_Known (b := b) (s := ⟨256, k', ⟨96, ⟨putC cs at_ x, []⟩, []⟩, 0⟩) (by show k'.length ≤ 1000000; omega) fun u2 hu2 => ?_
      repeat' (first | (with_reducible refine G.joini0 ?_) | (with_reducible refine G.joini1 ?_) | (with_reducible refine G.drew ?_) | (simp (maxSteps := 2000000) only [↓RG, RP, true_and, and_true, beq_true, beq_false, Bool.true_beq, Bool.false_beq, BEq.rfl, Int.reduceEq, Int.reduceLT, Int.reduceLE, Nat.reduceEqDiff, decide_true, decide_false, Bool.not_true, Bool.not_false, Bool.and_true, Bool.true_and, Bool.and_false, Bool.false_and, Bool.or_true, Bool.true_or, Bool.or_false, Bool.false_or, Bool.not_not]))
      refine s_book_Same_api_Cell (xs := k') (ys := k') (by omega) ?_
      repeat' (first | (with_reducible refine G.joini0 ?_) | (with_reducible refine G.joini1 ?_) | (with_reducible refine G.drew ?_) | (simp (maxSteps := 2000000) only [↓RG, RP, true_and, and_true, beq_true, beq_false, Bool.true_beq, Bool.false_beq, BEq.rfl, Int.reduceEq, Int.reduceLT, Int.reduceLE, Nat.reduceEqDiff, decide_true, decide_false, Bool.not_true, Bool.not_false, Bool.and_true, Bool.true_and, Bool.and_false, Bool.false_and, Bool.or_true, Bool.true_or, Bool.or_false, Bool.false_or, Bool.not_not]))
      rw [wsucc (by omega)]
      exact fin.sub
  · refine s_view_Know (b := b) (s := ⟨256, k, ⟨96, ⟨cs, []⟩, []⟩, 0⟩) (by show k.length ≤ 1000000; omega) ?_
    rw [show vKnow ⟨256, k, ⟨96, ⟨cs, []⟩, []⟩, 0⟩ 0 1 = (⟨256, k, ⟨96, ⟨cs, []⟩, []⟩, 0⟩, 2) from rfl]
    try simp (maxSteps := 2000000) only [↓RG, RP, true_and, and_true, beq_true, beq_false, Bool.true_beq, Bool.false_beq, BEq.rfl, Int.reduceEq, Int.reduceLT, Int.reduceLE, Nat.reduceEqDiff, decide_true, decide_false, Bool.not_true, Bool.not_false, Bool.and_true, Bool.true_and, Bool.and_false, Bool.false_and, Bool.or_true, Bool.true_or, Bool.or_false, Bool.false_or, Bool.not_not]
    refine s_view_Know (b := b) (s := ⟨256, k, ⟨96, ⟨cs, []⟩, []⟩, 0⟩) (by show k.length ≤ 1000000; omega) ?_
    rw [show vKnow ⟨256, k, ⟨96, ⟨cs, []⟩, []⟩, 0⟩ 256 1 = (⟨256, k, ⟨96, ⟨cs, []⟩, []⟩, 0⟩, 2) from rfl]
    try simp (maxSteps := 2000000) only [↓RG, RP, true_and, and_true, beq_true, beq_false, Bool.true_beq, Bool.false_beq, BEq.rfl, Int.reduceEq, Int.reduceLT, Int.reduceLE, Nat.reduceEqDiff, decide_true, decide_false, Bool.not_true, Bool.not_false, Bool.and_true, Bool.true_and, Bool.and_false, Bool.false_and, Bool.or_true, Bool.true_or, Bool.or_false, Bool.false_or, Bool.not_not]
    refine s_view_Known (b := b) (s := ⟨256, k, ⟨96, ⟨cs, []⟩, []⟩, 0⟩) (by show k.length ≤ 1000000; omega) fun u hu => ?_
    have hle : (k.length : Int) ≤ (qs.length : Int) := by omega
    try simp (maxSteps := 2000000) only [↓RG, RP, true_and, and_true, beq_true, beq_false, Bool.true_beq, Bool.false_beq, BEq.rfl, Int.reduceEq, Int.reduceLT, Int.reduceLE, Nat.reduceEqDiff, decide_true, decide_false, Bool.not_true, Bool.not_false, Bool.and_true, Bool.true_and, Bool.and_false, Bool.false_and, Bool.or_true, Bool.true_or, Bool.or_false, Bool.false_or, Bool.not_not, hle]
    exact hK.sub

end
end Go.Proofs.Ytlgdcfocnaifbaa.S
