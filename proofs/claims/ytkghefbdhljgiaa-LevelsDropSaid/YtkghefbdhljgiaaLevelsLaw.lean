/-
  CHAPTER 9: the statements' own functions (without the reference).
-/
import Derived.Test.YtkghefbdhljgiaaLevelsC
namespace Go.Proofs.Ytkghefbdhljgiaa.S
open Go Go.Proofs
set_option linter.unusedVariables false
set_option linter.unusedSimpArgs false

/-! ### what is put into a row that is put into another one -/
theorem putC_putC_self {a x y : Int} : ∀ {z : List TCell}, putC (putC z a x) a y = putC z a y
  | [] => by simp [putC]
  | c :: z => by
    by_cases h : c.place = a
    · simp [putC, h]
    · simp [putC, h, putC_putC_self (z := z)]
theorem putC_comm {a d x y : Int} (hd : a ≠ d) : ∀ {z : List TCell}, (lookC z a).isSome → putC (putC z d y) a x = putC (putC z a x) d y
  | [], h => by simp [lookC] at h
  | c :: z, h => by
    by_cases h1 : c.place = a
    · have h2 : ¬ c.place = d := fun e => hd (h1.symm.trans e)
      simp [putC, h1, hd]
    · by_cases h2 : c.place = d
      · have h3 : ¬ d = a := fun e => hd e.symm
        simp [putC, h1, h2, h3]
      · have : (lookC z a).isSome := by simpa [lookC, h1] using h
        simp [putC, h1, h2, putC_comm hd this]
theorem lookC_put_some {z : List TCell} {a d y : Int} (h : (lookC z a).isSome) : (lookC (putC z d y) a).isSome := by
  rw [lookC_put]; split
  · rfl
  · exact h
theorem putsC_last {a x : Int} : ∀ {cs : List TCell} {z : List TCell}, (∀ c ∈ cs, c.place ≠ a) → (lookC z a).isSome → putC (putsC z cs) a x = putsC (putC z a x) cs
  | [], z, _, _ => rfl
  | c :: cs, z, h, hz => by
    have hc := h c (by simp)
    rw [putsC_cons, putsC_cons, putsC_last (fun d hd => h d (by simp [hd])) (lookC_put_some hz), putC_comm (fun e => hc e.symm) hz]
theorem putsC_put {a x : Int} : ∀ {cs : List TCell} {z : List TCell}, (cs.map (·.place)).Nodup → putsC z (putC cs a x) = putC (putsC z cs) a x
  | [], z, _ => rfl
  | c :: cs, z, h => by
    rw [List.map_cons, List.nodup_cons] at h
    by_cases hc : c.place = a
    · subst hc
      have hn : ∀ d ∈ cs, d.place ≠ c.place := fun d hd e => h.1 (List.mem_map.2 ⟨d, hd, e⟩)
      have hs : (lookC (putC z c.place c.word) c.place).isSome := by rw [lookC_put]; simp
      show putsC z (putC (c :: cs) c.place x) = _
      rw [show putC (c :: cs) c.place x = ⟨c.place, x⟩ :: cs by simp [putC], putsC_cons, putsC_cons, putsC_last hn hs, putC_putC_self]
    · rw [show putC (c :: cs) a x = c :: putC cs a x by simp [putC, hc], putsC_cons, putsC_cons, putsC_put h.2]

/-! ### asks without levels -/
def isFree (q : AskLevels) : Bool := decide (IntKind.wrap .i64 ((BitVec.ofInt 64 q.kind &&& BitVec.ofInt 64 3).toNat) = 3)
def flat1 (r : Lv) (q : AskLevels) : Lv := if isFree q = true then ⟨r.c, r.f ++ [q.place]⟩ else ⟨putC r.c (within q.place 1 20) q.v, r.f⟩
def flatR (r : Lv) (l : List AskLevels) : Lv := l.foldl flat1 r

theorem okAt_within {n : Int} : okAt (within n 1 20) = true := by
  have := within_le (n := n) (show (1 : Int) ≤ 20 by omega)
  rw [okAt_iff]; omega
theorem flat1_ok {r : Lv} {q : AskLevels} (h : OkC r.c) : OkC (flat1 r q).c := by
  unfold flat1
  split
  · exact h
  · exact h.put okAt_within
theorem flatR_ok : ∀ {l : List AskLevels} {r : Lv}, OkC r.c → OkC (flatR r l).c
  | [], r, h => h
  | q :: l, r, h => flatR_ok (l := l) (r := flat1 r q) (flat1_ok h)
theorem flat1_c {r : Lv} {q : AskLevels} : r.c.length ≤ (flat1 r q).c.length ∧ (flat1 r q).c.length ≤ r.c.length + 1 := by
  unfold flat1
  split
  · simp
  · exact putC_le
theorem flat1_f {r : Lv} {q : AskLevels} : (flat1 r q).f.length ≤ r.f.length + 1 := by
  unfold flat1
  split <;> simp
theorem flatR_c : ∀ {l : List AskLevels} {r : Lv}, r.c.length ≤ (flatR r l).c.length ∧ (flatR r l).c.length ≤ r.c.length + l.length
  | [], r => by simp [flatR]
  | q :: l, r => by
    have h1 := flatR_c (l := l) (r := flat1 r q)
    have h2 := flat1_c (r := r) (q := q)
    show r.c.length ≤ (flatR (flat1 r q) l).c.length ∧ (flatR (flat1 r q) l).c.length ≤ r.c.length + (l.length + 1)
    omega
theorem flatR_f : ∀ {l : List AskLevels} {r : Lv}, (flatR r l).f.length ≤ r.f.length + l.length
  | [], r => by simp [flatR]
  | q :: l, r => by
    have h1 := flatR_f (l := l) (r := flat1 r q)
    have h2 := flat1_f (r := r) (q := q)
    show (flatR (flat1 r q) l).f.length ≤ r.f.length + (l.length + 1)
    omega
theorem flatR_take {l : List AskLevels} {r : Lv} {k : Nat} (hk : k < l.length) : flatR r (l.take (k + 1)) = flat1 (flatR r (l.take k)) l[k] := by
  unfold flatR
  rw [List.take_add_one, List.getElem?_eq_getElem hk, List.foldl_append]; rfl
/-- a level that is kept is as if it had not been there -/
theorem flatR_from : ∀ {l : List AskLevels} {r q : Lv}, OkC q.c → ∀ {z : Lv}, z = ⟨putsC r.c q.c, r.f ++ q.f⟩ → flatR z l = ⟨putsC r.c (flatR q l).c, r.f ++ (flatR q l).f⟩
  | [], r, q, _, z, e => e
  | a :: l, r, q, h, z, e => by
    show flatR (flat1 z a) l = ⟨putsC r.c (flatR (flat1 q a) l).c, r.f ++ (flatR (flat1 q a) l).f⟩
    refine flatR_from (flat1_ok h) ?_
    subst e
    unfold flat1
    split
    · simp
    · simp only [putsC_put h.nodup]

section
variable {w0 : Base} {L M : List Asn} {K : KV} {F : World → Prop} {C : Asn → List Asn} {b : Nat} {s : LvS}

theorem s_law9_LevelsRuns (hK : G w0 L (K (.bool true))) : G w0 L (CP Try.prog Fn.law9_LevelsRuns [] K) := by
  refine C_law9_LevelsRuns ?_
  unfold S_law9_LevelsRuns
  refine s_levels_New fun b => ?_
  try simp (maxSteps := 2000000) only [↓RG, RP, true_and, and_true, beq_true, beq_false, Bool.true_beq, Bool.false_beq, BEq.rfl, Int.reduceEq, Int.reduceLT, Int.reduceLE, Nat.reduceEqDiff, decide_true, decide_false, Bool.not_true, Bool.not_false, Bool.and_true, Bool.true_and, Bool.and_false, Bool.false_and, Bool.or_true, Bool.true_or, Bool.or_false, Bool.false_or, Bool.not_not]
  refine s_levels_Levels_Put (s := ⟨5, ⟨[], []⟩, []⟩) ?_
  rw [show lErr ⟨5, ⟨[], []⟩, []⟩ 9 = 0 by decide, if_pos rfl]
  try simp (maxSteps := 2000000) only [↓RG, RP, true_and, and_true, beq_true, beq_false, Bool.true_beq, Bool.false_beq, BEq.rfl, Int.reduceEq, Int.reduceLT, Int.reduceLE, Nat.reduceEqDiff, decide_true, decide_false, Bool.not_true, Bool.not_false, Bool.and_true, Bool.true_and, Bool.and_false, Bool.false_and, Bool.or_true, Bool.true_or, Bool.or_false, Bool.false_or, Bool.not_not]
  refine s_levels_Levels_Open (s := ⟨5, ⟨[⟨9, 1⟩], []⟩, []⟩) ?_
  rw [show (lOpen ⟨5, ⟨[⟨9, 1⟩], []⟩, []⟩) = (⟨5, ⟨[], []⟩, [⟨[⟨9, 1⟩], []⟩]⟩, 0) by rfl]
  try simp (maxSteps := 2000000) only [↓RG, RP, true_and, and_true, beq_true, beq_false, Bool.true_beq, Bool.false_beq, BEq.rfl, Int.reduceEq, Int.reduceLT, Int.reduceLE, Nat.reduceEqDiff, decide_true, decide_false, Bool.not_true, Bool.not_false, Bool.and_true, Bool.true_and, Bool.and_false, Bool.false_and, Bool.or_true, Bool.true_or, Bool.or_false, Bool.false_or, Bool.not_not]
  refine s_levels_Levels_Put (s := ⟨5, ⟨[], []⟩, [⟨[⟨9, 1⟩], []⟩]⟩) ?_
  rw [show lErr ⟨5, ⟨[], []⟩, [⟨[⟨9, 1⟩], []⟩]⟩ 9 = 0 by decide, if_pos rfl]
  try simp (maxSteps := 2000000) only [↓RG, RP, true_and, and_true, beq_true, beq_false, Bool.true_beq, Bool.false_beq, BEq.rfl, Int.reduceEq, Int.reduceLT, Int.reduceLE, Nat.reduceEqDiff, decide_true, decide_false, Bool.not_true, Bool.not_false, Bool.and_true, Bool.true_and, Bool.and_false, Bool.false_and, Bool.or_true, Bool.true_or, Bool.or_false, Bool.false_or, Bool.not_not]
  refine s_levels_Levels_Get (s := ⟨5, ⟨[⟨9, 2⟩], []⟩, [⟨[⟨9, 1⟩], []⟩]⟩) ?_
  rw [show lookRV ⟨5, ⟨[⟨9, 2⟩], []⟩, [⟨[⟨9, 1⟩], []⟩]⟩ 9 = .tuple #[u64 2, .bool true] by rfl]
  try simp (maxSteps := 2000000) only [↓RG, RP, true_and, and_true, beq_true, beq_false, Bool.true_beq, Bool.false_beq, BEq.rfl, Int.reduceEq, Int.reduceLT, Int.reduceLE, Nat.reduceEqDiff, decide_true, decide_false, Bool.not_true, Bool.not_false, Bool.and_true, Bool.true_and, Bool.and_false, Bool.false_and, Bool.or_true, Bool.true_or, Bool.or_false, Bool.false_or, Bool.not_not]
  refine s_levels_Levels_Drop (s := ⟨5, ⟨[⟨9, 2⟩], []⟩, [⟨[⟨9, 1⟩], []⟩]⟩) ?_
  rw [show lDrop ⟨5, ⟨[⟨9, 2⟩], []⟩, [⟨[⟨9, 1⟩], []⟩]⟩ = (⟨5, ⟨[⟨9, 1⟩], []⟩, []⟩, 0) by rfl]
  try simp (maxSteps := 2000000) only [↓RG, RP, true_and, and_true, beq_true, beq_false, Bool.true_beq, Bool.false_beq, BEq.rfl, Int.reduceEq, Int.reduceLT, Int.reduceLE, Nat.reduceEqDiff, decide_true, decide_false, Bool.not_true, Bool.not_false, Bool.and_true, Bool.true_and, Bool.and_false, Bool.false_and, Bool.or_true, Bool.true_or, Bool.or_false, Bool.false_or, Bool.not_not]
  refine s_levels_Levels_Get (s := ⟨5, ⟨[⟨9, 1⟩], []⟩, []⟩) ?_
  rw [show lookRV ⟨5, ⟨[⟨9, 1⟩], []⟩, []⟩ 9 = .tuple #[u64 1, .bool true] by rfl]
  try simp (maxSteps := 2000000) only [↓RG, RP, true_and, and_true, beq_true, beq_false, Bool.true_beq, Bool.false_beq, BEq.rfl, Int.reduceEq, Int.reduceLT, Int.reduceLE, Nat.reduceEqDiff, decide_true, decide_false, Bool.not_true, Bool.not_false, Bool.and_true, Bool.true_and, Bool.and_false, Bool.false_and, Bool.or_true, Bool.true_or, Bool.or_false, Bool.false_or, Bool.not_not]
  refine s_levels_Levels_Open (s := ⟨5, ⟨[⟨9, 1⟩], []⟩, []⟩) ?_
  rw [show (lOpen ⟨5, ⟨[⟨9, 1⟩], []⟩, []⟩) = (⟨5, ⟨[], []⟩, [⟨[⟨9, 1⟩], []⟩]⟩, 0) by rfl]
  try simp (maxSteps := 2000000) only [↓RG, RP, true_and, and_true, beq_true, beq_false, Bool.true_beq, Bool.false_beq, BEq.rfl, Int.reduceEq, Int.reduceLT, Int.reduceLE, Nat.reduceEqDiff, decide_true, decide_false, Bool.not_true, Bool.not_false, Bool.and_true, Bool.true_and, Bool.and_false, Bool.false_and, Bool.or_true, Bool.true_or, Bool.or_false, Bool.false_or, Bool.not_not]
  refine s_levels_Levels_Put (s := ⟨5, ⟨[], []⟩, [⟨[⟨9, 1⟩], []⟩]⟩) ?_
  rw [show lErr ⟨5, ⟨[], []⟩, [⟨[⟨9, 1⟩], []⟩]⟩ 9 = 0 by decide, if_pos rfl]
  try simp (maxSteps := 2000000) only [↓RG, RP, true_and, and_true, beq_true, beq_false, Bool.true_beq, Bool.false_beq, BEq.rfl, Int.reduceEq, Int.reduceLT, Int.reduceLE, Nat.reduceEqDiff, decide_true, decide_false, Bool.not_true, Bool.not_false, Bool.and_true, Bool.true_and, Bool.and_false, Bool.false_and, Bool.or_true, Bool.true_or, Bool.or_false, Bool.false_or, Bool.not_not]
  refine s_levels_Levels_Free (s := ⟨5, ⟨[⟨9, 3⟩], []⟩, [⟨[⟨9, 1⟩], []⟩]⟩) (by simp) ?_
  try simp (maxSteps := 2000000) only [↓RG, RP, true_and, and_true, beq_true, beq_false, Bool.true_beq, Bool.false_beq, BEq.rfl, Int.reduceEq, Int.reduceLT, Int.reduceLE, Nat.reduceEqDiff, decide_true, decide_false, Bool.not_true, Bool.not_false, Bool.and_true, Bool.true_and, Bool.and_false, Bool.false_and, Bool.or_true, Bool.true_or, Bool.or_false, Bool.false_or, Bool.not_not]
  refine s_levels_Levels_Keep (s := ⟨5, ⟨[⟨9, 3⟩], [4]⟩, [⟨[⟨9, 1⟩], []⟩]⟩) (by decide) ?_
  rw [show lKeep ⟨5, ⟨[⟨9, 3⟩], [4]⟩, [⟨[⟨9, 1⟩], []⟩]⟩ = (⟨5, ⟨[⟨9, 3⟩], [4]⟩, []⟩, 0) by rfl]
  try simp (maxSteps := 2000000) only [↓RG, RP, true_and, and_true, beq_true, beq_false, Bool.true_beq, Bool.false_beq, BEq.rfl, Int.reduceEq, Int.reduceLT, Int.reduceLE, Nat.reduceEqDiff, decide_true, decide_false, Bool.not_true, Bool.not_false, Bool.and_true, Bool.true_and, Bool.and_false, Bool.false_and, Bool.or_true, Bool.true_or, Bool.or_false, Bool.false_or, Bool.not_not]
  refine s_levels_Levels_Cells (s := ⟨5, ⟨[⟨9, 3⟩], [4]⟩, []⟩) fun u hu => ?_
  rw [show LvS.cells ⟨5, ⟨[⟨9, 3⟩], [4]⟩, []⟩ = [⟨9, 3⟩] by rfl]
  refine s_levels_Levels_Frees (s := ⟨5, ⟨[⟨9, 3⟩], [4]⟩, []⟩) (by decide) fun u2 hu2 => ?_
  rw [show LvS.frees ⟨5, ⟨[⟨9, 3⟩], [4]⟩, []⟩ = [4] by rfl]
  try simp [↓RG, RP]
  refine s_levels_Levels_Depth (s := ⟨5, ⟨[⟨9, 3⟩], [4]⟩, []⟩) ?_
  try simp [↓RG, RP]
  refine s_levels_Levels_Room (s := ⟨5, ⟨[⟨9, 3⟩], [4]⟩, []⟩) ?_
  rw [show LvS.room ⟨5, ⟨[⟨9, 3⟩], [4]⟩, []⟩ = 4 by decide]
  try simp [↓RG, RP]
  refine s_levels_Levels_Keep (s := ⟨5, ⟨[⟨9, 3⟩], [4]⟩, []⟩) (by decide) ?_
  rw [show lKeep ⟨5, ⟨[⟨9, 3⟩], [4]⟩, []⟩ = (⟨5, ⟨[⟨9, 3⟩], [4]⟩, []⟩, 10) by rfl]
  try simp (maxSteps := 2000000) only [↓RG, RP, true_and, and_true, beq_true, beq_false, Bool.true_beq, Bool.false_beq, BEq.rfl, Int.reduceEq, Int.reduceLT, Int.reduceLE, Nat.reduceEqDiff, decide_true, decide_false, Bool.not_true, Bool.not_false, Bool.and_true, Bool.true_and, Bool.and_false, Bool.false_and, Bool.or_true, Bool.true_or, Bool.or_false, Bool.false_or, Bool.not_not]
  exact hK.sub

theorem s_law9_flat {l : Value} {qs : List AskLevels} [i : SelOb L LevelsR b s C] [a : Arg w0 l askLevelsE qs] (hr : (totalC (s.r :: s.up) : Int) + 12 ≤ s.most) (hf : s.r.f.length ≤ 1000)
    (hK : G w0 (C (ob LevelsR b ⟨s.most, flatR s.r (qs.take 12), s.up⟩)) (K (.bool true))) : G w0 L (CP Try.prog Fn.law9_flat [ptr b 0, l] K) := by
  refine i.use (fun M hK => ?_) hK
  refine C_law9_flat ?_
  unfold S_law9_flat
  try simp (maxSteps := 2000000) only [fuse_and, fuse_or, fuse_step, fuse_pair, fuse_in, andP_true]
  refine G.loop1 (fun k : Nat => i64 k) (fun k => ob LevelsR b ⟨s.most, flatR s.r (qs.take k), s.up⟩ :: M) (fun k => k ≤ qs.length ∧ k ≤ 12) (fun k => qs.length - k) 0 rfl rfl ⟨by simp, by simp⟩ ?_
  rintro k ⟨hk, hk12⟩ J hJ
  try simp (maxSteps := 2000000) only [↓RG, RP, true_and, and_true, beq_true, beq_false, Bool.true_beq, Bool.false_beq, BEq.rfl, Int.reduceEq, Int.reduceLT, Int.reduceLE, Nat.reduceEqDiff, decide_true, decide_false, Bool.not_true, Bool.not_false, Bool.and_true, Bool.true_and, Bool.and_false, Bool.false_and, Bool.or_true, Bool.true_or, Bool.or_false, Bool.false_or, Bool.not_not]
  refine G.cond (fun h => ?_) (fun h => ?_)
  · have hk2 : k < qs.length ∧ k < 12 := by simp at h; omega
    have e := elem_of hk2.1
    have t := flatR_take (r := s.r) hk2.1
    have hJ := hJ (k + 1) ⟨hk2.1, hk2.2⟩ (by omega)
    rw [t] at hJ
    have c1 := flatR_c (l := qs.take k) (r := s.r)
    have c2 := flatR_f (l := qs.take k) (r := s.r)
    have c3 : (qs.take k).length ≤ 11 := by rw [List.length_take]; omega
    generalize flatR s.r (qs.take k) = r at hJ c1 c2 ⊢
    unfold flat1 at hJ
    try simp (maxSteps := 2000000) only [↓RG, RP, true_and, and_true, beq_true, beq_false, Bool.true_beq, Bool.false_beq, BEq.rfl, Int.reduceEq, Int.reduceLT, Int.reduceLE, Nat.reduceEqDiff, decide_true, decide_false, Bool.not_true, Bool.not_false, Bool.and_true, Bool.true_and, Bool.and_false, Bool.false_and, Bool.or_true, Bool.true_or, Bool.or_false, Bool.false_or, Bool.not_not]
    refine G.joini0 ?_
    refine G.cond (fun h => ?_) (fun h => ?_)
    · have h2 : isFree qs[k] = true := h
      rw [if_pos h2] at hJ
      try simp (maxSteps := 2000000) only [↓RG, RP, true_and, and_true, beq_true, beq_false, Bool.true_beq, Bool.false_beq, BEq.rfl, Int.reduceEq, Int.reduceLT, Int.reduceLE, Nat.reduceEqDiff, decide_true, decide_false, Bool.not_true, Bool.not_false, Bool.and_true, Bool.true_and, Bool.and_false, Bool.false_and, Bool.or_true, Bool.true_or, Bool.or_false, Bool.false_or, Bool.not_not]
      refine s_levels_Levels_Free (s := ⟨s.most, r, s.up⟩) (by show r.f.length ≤ 1000000; omega) ?_
      try simp (maxSteps := 2000000) only [↓RG, RP, true_and, and_true, beq_true, beq_false, Bool.true_beq, Bool.false_beq, BEq.rfl, Int.reduceEq, Int.reduceLT, Int.reduceLE, Nat.reduceEqDiff, decide_true, decide_false, Bool.not_true, Bool.not_false, Bool.and_true, Bool.true_and, Bool.and_false, Bool.false_and, Bool.or_true, Bool.true_or, Bool.or_false, Bool.false_or, Bool.not_not]
      rw [wsucc (by omega)]
      exact hJ
    · have h2 : ¬ isFree qs[k] = true := by rw [show isFree qs[k] = false from h]; decide
      rw [if_neg h2] at hJ
      repeat' (first | (with_reducible refine G.joini0 ?_) | (with_reducible refine G.joini1 ?_) | (with_reducible refine G.drew ?_) | (simp (maxSteps := 2000000) only [↓RG, RP, true_and, and_true, beq_true, beq_false, Bool.true_beq, Bool.false_beq, BEq.rfl, Int.reduceEq, Int.reduceLT, Int.reduceLE, Nat.reduceEqDiff, decide_true, decide_false, Bool.not_true, Bool.not_false, Bool.and_true, Bool.true_and, Bool.and_false, Bool.false_and, Bool.or_true, Bool.true_or, Bool.or_false, Bool.false_or, Bool.not_not]))
      refine s_book_Within (by omega) (by omega) (by omega) (by omega) ?_
      repeat' (first | (with_reducible refine G.joini0 ?_) | (with_reducible refine G.joini1 ?_) | (with_reducible refine G.drew ?_) | (simp (maxSteps := 2000000) only [↓RG, RP, true_and, and_true, beq_true, beq_false, Bool.true_beq, Bool.false_beq, BEq.rfl, Int.reduceEq, Int.reduceLT, Int.reduceLE, Nat.reduceEqDiff, decide_true, decide_false, Bool.not_true, Bool.not_false, Bool.and_true, Bool.true_and, Bool.and_false, Bool.false_and, Bool.or_true, Bool.true_or, Bool.or_false, Bool.false_or, Bool.not_not]))
      have h0 : lErr ⟨s.most, r, s.up⟩ (within qs[k].place 1 20) = 0 := by
        unfold lErr
        rw [if_pos okAt_within]
        split
        · rfl
        · rw [if_neg]
          unfold LvS.room
          rw [totalC_cons] at hr ⊢
          simp only
          omega
      refine s_levels_Levels_Put (s := ⟨s.most, r, s.up⟩) ?_
      rw [h0, if_pos rfl]
      repeat' (first | (with_reducible refine G.joini0 ?_) | (with_reducible refine G.joini1 ?_) | (with_reducible refine G.drew ?_) | (simp (maxSteps := 2000000) only [↓RG, RP, true_and, and_true, beq_true, beq_false, Bool.true_beq, Bool.false_beq, BEq.rfl, Int.reduceEq, Int.reduceLT, Int.reduceLE, Nat.reduceEqDiff, decide_true, decide_false, Bool.not_true, Bool.not_false, Bool.and_true, Bool.true_and, Bool.and_false, Bool.false_and, Bool.or_true, Bool.true_or, Bool.or_false, Bool.false_or, Bool.not_not]))
      rw [wsucc (by omega)]
      exact hJ
  · have ht : qs.take 12 = qs.take k := by
      have h2 : ¬ (k < qs.length ∧ k < 12) := by simp at h; omega
      rcases Nat.lt_or_ge k 12 with h3 | h3
      · rw [List.take_of_length_le (by omega), List.take_of_length_le (by omega)]
      · rw [show k = 12 by omega]
    rw [ht] at hK
    exact hK

theorem s_law9_LevelsDrop {l1 l2 l3 : Value} {q1 q2 q3 : List AskLevels} [a1 : Arg w0 l1 askLevelsE q1] [a2 : Arg w0 l2 askLevelsE q2] [a3 : Arg w0 l3 askLevelsE q3] (hK : G w0 L (K (.bool true))) : G w0 L (CP Try.prog Fn.law9_LevelsDrop [l1, l2, l3] K) := by
  refine C_law9_LevelsDrop ?_
  unfold S_law9_LevelsDrop
  refine s_law9_LevelsRuns ?_
  try simp (maxSteps := 2000000) only [fuse_and, fuse_or, fuse_step, fuse_pair, fuse_in, andP_true]
  try simp (maxSteps := 2000000) only [↓RG, RP, true_and, and_true, beq_true, beq_false, Bool.true_beq, Bool.false_beq, BEq.rfl, Int.reduceEq, Int.reduceLT, Int.reduceLE, Nat.reduceEqDiff, decide_true, decide_false, Bool.not_true, Bool.not_false, Bool.and_true, Bool.true_and, Bool.and_false, Bool.false_and, Bool.or_true, Bool.true_or, Bool.or_false, Bool.false_or, Bool.not_not]
  refine s_levels_New fun b => ?_
  rw [show held 96 0 96 = 96 from rfl]
  try simp (maxSteps := 2000000) only [↓RG, RP, true_and, and_true, beq_true, beq_false, Bool.true_beq, Bool.false_beq, BEq.rfl, Int.reduceEq, Int.reduceLT, Int.reduceLE, Nat.reduceEqDiff, decide_true, decide_false, Bool.not_true, Bool.not_false, Bool.and_true, Bool.true_and, Bool.and_false, Bool.false_and, Bool.or_true, Bool.true_or, Bool.or_false, Bool.false_or, Bool.not_not]
  refine s_law9_flat (s := ⟨96, ⟨[], []⟩, []⟩) (by decide) (by simp) ?_
  have c1 := flatR_c (l := q1.take 12) (r := ⟨[], []⟩)
  have f1 := flatR_f (l := q1.take 12) (r := ⟨[], []⟩)
  have z1 : (q1.take 12).length ≤ 12 := by rw [List.length_take]; omega
  generalize flatR ⟨[], []⟩ (q1.take 12) = r1 at c1 f1 ⊢
  simp only [List.length_nil] at c1 f1
  try simp (maxSteps := 2000000) only [↓RG, RP, true_and, and_true, beq_true, beq_false, Bool.true_beq, Bool.false_beq, BEq.rfl, Int.reduceEq, Int.reduceLT, Int.reduceLE, Nat.reduceEqDiff, decide_true, decide_false, Bool.not_true, Bool.not_false, Bool.and_true, Bool.true_and, Bool.and_false, Bool.false_and, Bool.or_true, Bool.true_or, Bool.or_false, Bool.false_or, Bool.not_not]
  refine G.okL (b := b) (s := ⟨96, r1, []⟩) fun hs => ?_
  refine s_levels_Levels_Cells (s := ⟨96, r1, []⟩) fun u hu => ?_
  refine s_levels_Levels_Frees (s := ⟨96, r1, []⟩) (by simp [LvS.frees, freesR]; omega) fun u2 hu2 => ?_
  refine s_levels_Levels_Room (s := ⟨96, r1, []⟩) ?_
  refine s_levels_Levels_Open (s := ⟨96, r1, []⟩) ?_
  rw [show lOpen ⟨96, r1, []⟩ = (⟨96, ⟨[], []⟩, [r1]⟩, 0) from rfl]
  try simp (maxSteps := 2000000) only [↓RG, RP, true_and, and_true, beq_true, beq_false, Bool.true_beq, Bool.false_beq, BEq.rfl, Int.reduceEq, Int.reduceLT, Int.reduceLE, Nat.reduceEqDiff, decide_true, decide_false, Bool.not_true, Bool.not_false, Bool.and_true, Bool.true_and, Bool.and_false, Bool.false_and, Bool.or_true, Bool.true_or, Bool.or_false, Bool.false_or, Bool.not_not]
  refine s_law9_flat (s := ⟨96, ⟨[], []⟩, [r1]⟩) (by simp [totalC]; omega) (by simp) ?_
  have c2 := flatR_c (l := q2.take 12) (r := ⟨[], []⟩)
  have f2 := flatR_f (l := q2.take 12) (r := ⟨[], []⟩)
  have z2 : (q2.take 12).length ≤ 12 := by rw [List.length_take]; omega
  generalize flatR ⟨[], []⟩ (q2.take 12) = r2 at c2 f2 ⊢
  simp only [List.length_nil] at c2 f2
  try simp (maxSteps := 2000000) only [↓RG, RP, true_and, and_true, beq_true, beq_false, Bool.true_beq, Bool.false_beq, BEq.rfl, Int.reduceEq, Int.reduceLT, Int.reduceLE, Nat.reduceEqDiff, decide_true, decide_false, Bool.not_true, Bool.not_false, Bool.and_true, Bool.true_and, Bool.and_false, Bool.false_and, Bool.or_true, Bool.true_or, Bool.or_false, Bool.false_or, Bool.not_not]
  refine s_levels_Levels_Open (s := ⟨96, r2, [r1]⟩) ?_
  rw [show lOpen ⟨96, r2, [r1]⟩ = (⟨96, ⟨[], []⟩, [r2, r1]⟩, 0) from rfl]
  try simp (maxSteps := 2000000) only [↓RG, RP, true_and, and_true, beq_true, beq_false, Bool.true_beq, Bool.false_beq, BEq.rfl, Int.reduceEq, Int.reduceLT, Int.reduceLE, Nat.reduceEqDiff, decide_true, decide_false, Bool.not_true, Bool.not_false, Bool.and_true, Bool.true_and, Bool.and_false, Bool.false_and, Bool.or_true, Bool.true_or, Bool.or_false, Bool.false_or, Bool.not_not]
  refine s_law9_flat (s := ⟨96, ⟨[], []⟩, [r2, r1]⟩) (by simp [totalC]; omega) (by simp) ?_
  have c3 := flatR_c (l := q3.take 12) (r := ⟨[], []⟩)
  have f3 := flatR_f (l := q3.take 12) (r := ⟨[], []⟩)
  have z3 : (q3.take 12).length ≤ 12 := by rw [List.length_take]; omega
  generalize flatR ⟨[], []⟩ (q3.take 12) = r3 at c3 f3 ⊢
  simp only [List.length_nil] at c3 f3
  try simp (maxSteps := 2000000) only [↓RG, RP, true_and, and_true, beq_true, beq_false, Bool.true_beq, Bool.false_beq, BEq.rfl, Int.reduceEq, Int.reduceLT, Int.reduceLE, Nat.reduceEqDiff, decide_true, decide_false, Bool.not_true, Bool.not_false, Bool.and_true, Bool.true_and, Bool.and_false, Bool.false_and, Bool.or_true, Bool.true_or, Bool.or_false, Bool.false_or, Bool.not_not]
  refine s_levels_Levels_Keep (s := ⟨96, r3, [r2, r1]⟩) (by simp [LvS.frees, freesR]; omega) ?_
  rw [show lKeep ⟨96, r3, [r2, r1]⟩ = (⟨96, ⟨putsC r2.c r3.c, r2.f ++ r3.f⟩, [r1]⟩, 0) from rfl]
  try simp (maxSteps := 2000000) only [↓RG, RP, true_and, and_true, beq_true, beq_false, Bool.true_beq, Bool.false_beq, BEq.rfl, Int.reduceEq, Int.reduceLT, Int.reduceLE, Nat.reduceEqDiff, decide_true, decide_false, Bool.not_true, Bool.not_false, Bool.and_true, Bool.true_and, Bool.and_false, Bool.false_and, Bool.or_true, Bool.true_or, Bool.or_false, Bool.false_or, Bool.not_not]
  refine s_levels_Levels_Drop (s := ⟨96, ⟨putsC r2.c r3.c, r2.f ++ r3.f⟩, [r1]⟩) ?_
  rw [show lDrop ⟨96, ⟨putsC r2.c r3.c, r2.f ++ r3.f⟩, [r1]⟩ = (⟨96, r1, []⟩, 0) from rfl]
  try simp (maxSteps := 2000000) only [↓RG, RP, true_and, and_true, beq_true, beq_false, Bool.true_beq, Bool.false_beq, BEq.rfl, Int.reduceEq, Int.reduceLT, Int.reduceLE, Nat.reduceEqDiff, decide_true, decide_false, Bool.not_true, Bool.not_false, Bool.and_true, Bool.true_and, Bool.and_false, Bool.false_and, Bool.or_true, Bool.true_or, Bool.or_false, Bool.false_or, Bool.not_not]
  refine s_levels_Levels_Cells (s := ⟨96, r1, []⟩) fun u3 hu3 => ?_
  refine s_book_Same_api_Cell (xs := LvS.cells ⟨96, r1, []⟩) (ys := LvS.cells ⟨96, r1, []⟩) (by have := cells_le hs; omega) ?_
  try simp (maxSteps := 2000000) only [↓RG, RP, true_and, and_true, beq_true, beq_false, Bool.true_beq, Bool.false_beq, BEq.rfl, Int.reduceEq, Int.reduceLT, Int.reduceLE, Nat.reduceEqDiff, decide_true, decide_false, Bool.not_true, Bool.not_false, Bool.and_true, Bool.true_and, Bool.and_false, Bool.false_and, Bool.or_true, Bool.true_or, Bool.or_false, Bool.false_or, Bool.not_not]
  refine s_levels_Levels_Frees (s := ⟨96, r1, []⟩) (by simp [LvS.frees, freesR]; omega) fun u4 hu4 => ?_
  refine s_book_Same_int (xs := LvS.frees ⟨96, r1, []⟩) (ys := LvS.frees ⟨96, r1, []⟩) (by simp [LvS.frees, freesR]; omega) ?_
  try simp (maxSteps := 2000000) only [↓RG, RP, true_and, and_true, beq_true, beq_false, Bool.true_beq, Bool.false_beq, BEq.rfl, Int.reduceEq, Int.reduceLT, Int.reduceLE, Nat.reduceEqDiff, decide_true, decide_false, Bool.not_true, Bool.not_false, Bool.and_true, Bool.true_and, Bool.and_false, Bool.false_and, Bool.or_true, Bool.true_or, Bool.or_false, Bool.false_or, Bool.not_not]
  refine s_levels_Levels_Room (s := ⟨96, r1, []⟩) ?_
  try simp (maxSteps := 2000000) only [↓RG, RP, true_and, and_true, beq_true, beq_false, Bool.true_beq, Bool.false_beq, BEq.rfl, Int.reduceEq, Int.reduceLT, Int.reduceLE, Nat.reduceEqDiff, decide_true, decide_false, Bool.not_true, Bool.not_false, Bool.and_true, Bool.true_and, Bool.and_false, Bool.false_and, Bool.or_true, Bool.true_or, Bool.or_false, Bool.false_or, Bool.not_not]
  refine s_levels_Levels_Depth (s := ⟨96, r1, []⟩) ?_
  try simp [↓RG, RP]
  exact hK.sub

end
end Go.Proofs.Ytkghefbdhljgiaa.S
