/-
  CHAPTER 9: the statements' own functions (without the reference).
-/
import Derived.Test.YtkghefbdhljgiaaLevelsC
namespace Go.Proofs.Ytkghefbdhljgiaa.S
open Go Go.Proofs
set_option linter.unusedVariables false
set_option linter.unusedSimpArgs false

/-! ### what is put into a row that is put into another one -/
theorem putC_putC_self {a x y : Int} : ∀ {z : List TCell}, putC (putC z a x) a y = putC z a y
  | [] => by simp [putC]
  | c :: z => by
    by_cases h : c.place = a
    · simp [putC, h]
    · simp [putC, h, putC_putC_self (z := z)]
theorem putC_comm {a d x y : Int} (hd : a ≠ d) : ∀ {z : List TCell}, (lookC z a).isSome → putC (putC z d y) a x = putC (putC z a x) d y
  | [], h => by simp [lookC] at h
  | c :: z, h => by
    by_cases h1 : c.place = a
    · have h2 : ¬ c.place = d := fun e => hd (h1.symm.trans e)
      simp [putC, h1, hd]
    · by_cases h2 : c.place = d
      · have h3 : ¬ d = a := fun e => hd e.symm
        simp [putC, h1, h2, h3]
      · have : (lookC z a).isSome := by simpa [lookC, h1] using h
        simp [putC, h1, h2, putC_comm hd this]
theorem lookC_put_some {z : List TCell} {a d y : Int} (h : (lookC z a).isSome) : (lookC (putC z d y) a).isSome := by
  rw [lookC_put]; split
  · rfl
  · exact h
theorem putsC_last {a x : Int} : ∀ {cs : List TCell} {z : List TCell}, (∀ c ∈ cs, c.place ≠ a) → (lookC z a).isSome → putC (putsC z cs) a x = putsC (putC z a x) cs
  | [], z, _, _ => rfl
  | c :: cs, z, h, hz => by
    have hc := h c (by simp)
    rw [putsC_cons, putsC_cons, putsC_last (fun d hd => h d (by simp [hd])) (lookC_put_some hz), putC_comm (fun e => hc e.symm) hz]
theorem putsC_put {a x : Int} : ∀ {cs : List TCell} {z : List TCell}, (cs.map (·.place)).Nodup → putsC z (putC cs a x) = putC (putsC z cs) a x
  | [], z, _ => rfl
  | c :: cs, z, h => by
    rw [List.map_cons, List.nodup_cons] at h
    by_cases hc : c.place = a
    · subst hc
      have hn : ∀ d ∈ cs, d.place ≠ c.place := fun d hd e => h.1 (List.mem_map.2 ⟨d, hd, e⟩)
      have hs : (lookC (putC z c.place c.word) c.place).isSome := by rw [lookC_put]; simp
      show putsC z (putC (c :: cs) c.place x) = _
      rw [show putC (c :: cs) c.place x = ⟨c.place, x⟩ :: cs by simp [putC], putsC_cons, putsC_cons, putsC_last hn hs, putC_putC_self]
    · rw [show putC (c :: cs) a x = c :: putC cs a x by simp [putC, hc], putsC_cons, putsC_cons, putsC_put h.2]

/-! ### asks without levels -/
def isFree (q : AskLevels) : Bool := decide (IntKind.wrap .i64 ((BitVec.ofInt 64 q.kind &&& BitVec.ofInt 64 3).toNat) = 3)
def flat1 (r : Lv) (q : AskLevels) : Lv := if isFree q = true then ⟨r.c, r.f ++ [q.place]⟩ else ⟨putC r.c (within q.place 1 20) q.v, r.f⟩
def flatR (r : Lv) (l : List AskLevels) : Lv := l.foldl flat1 r

theorem okAt_within {n : Int} : okAt (within n 1 20) = true := by
  have := within_le (n := n) (show (1 : Int) ≤ 20 by omega)
  rw [okAt_iff]; omega
theorem flat1_ok {r : Lv} {q : AskLevels} (h : OkC r.c) : OkC (flat1 r q).c := by
  unfold flat1
  split
  · exact h
  · exact h.put okAt_within
theorem flatR_ok : ∀ {l : List AskLevels} {r : Lv}, OkC r.c → OkC (flatR r l).c
  | [], r, h => h
  | q :: l, r, h => flatR_ok (l := l) (r := flat1 r q) (flat1_ok h)
theorem flat1_c {r : Lv} {q : AskLevels} : r.c.length ≤ (flat1 r q).c.length ∧ (flat1 r q).c.length ≤ r.c.length + 1 := by
  unfold flat1
  split
  · simp
  · exact putC_le
theorem flat1_f {r : Lv} {q : AskLevels} : (flat1 r q).f.length ≤ r.f.length + 1 := by
  unfold flat1
  split <;> simp
theorem flatR_c : ∀ {l : List AskLevels} {r : Lv}, r.c.length ≤ (flatR r l).c.length ∧ (flatR r l).c.length ≤ r.c.length + l.length
  | [], r => by simp [flatR]
  | q :: l, r => by
    have h1 := flatR_c (l := l) (r := flat1 r q)
    have h2 := flat1_c (r := r) (q := q)
    show r.c.length ≤ (flatR (flat1 r q) l).c.length ∧ (flatR (flat1 r q) l).c.length ≤ r.c.length + (l.length + 1)
    omega
theorem flatR_f : ∀ {l : List AskLevels} {r : Lv}, (flatR r l).f.length ≤ r.f.length + l.length
  | [], r => by simp [flatR]
  | q :: l, r => by
    have h1 := flatR_f (l := l) (r := flat1 r q)
    have h2 := flat1_f (r := r) (q := q)
    show (flatR (flat1 r q) l).f.length ≤ r.f.length + (l.length + 1)
    omega
theorem flatR_take {l : List AskLevels} {r : Lv} {k : Nat} (hk : k < l.length) : flatR r (l.take (k + 1)) = flat1 (flatR r (l.take k)) l[k] := by
  unfold flatR
  rw [List.take_add_one, List.getElem?_eq_getElem hk, List.foldl_append]; rfl
/-- a level that is kept is as if it had not been there -/
theorem flatR_from : ∀ {l : List AskLevels} {r q : Lv}, OkC q.c → ∀ {z : Lv}, z = ⟨putsC r.c q.c, r.f ++ q.f⟩ → flatR z l = ⟨putsC r.c (flatR q l).c, r.f ++ (flatR q l).f⟩
  | [], r, q, _, z, e => e
  | a :: l, r, q, h, z, e => by
    show flatR (flat1 z a) l = ⟨putsC r.c (flatR (flat1 q a) l).c, r.f ++ (flatR (flat1 q a) l).f⟩
    refine flatR_from (flat1_ok h) ?_
    subst e
    unfold flat1
    split
    · simp
    · simp only [putsC_put h.nodup]

section
variable {w0 : Base} {L M : List Asn} {K : KV} {F : World → Prop} {C : Asn → List Asn} {b : Nat} {s : LvS}

theorem s_law9_LevelsRuns (hK : G w0 L (K (.bool true))) : G w0 L (CP Try.prog Fn.law9_LevelsRuns [] K) := by
  refine C_law9_LevelsRuns ?_
  unfold S_law9_LevelsRuns
  refine s_levels_New fun b => ?_
  try simp (maxSteps := 2000000) only [↓RG, RP, true_and, and_true, beq_true, beq_false, Bool.true_beq, Bool.false_beq, BEq.rfl, Int.reduceEq, Int.reduceLT, Int.reduceLE, Nat.reduceEqDiff, decide_true, decide_false, Bool.not_true, Bool.not_false, Bool.and_true, Bool.true_and, Bool.and_false, Bool.false_and, Bool.or_true, Bool.true_or, Bool.or_false, Bool.false_or, Bool.not_not]
  refine s_levels_Levels_Put (s := ⟨5, ⟨[], []⟩, []⟩) ?_
  rw [show lErr ⟨5, ⟨[], []⟩, []⟩ 9 = 0 by decide, if_pos rfl]
  try simp (maxSteps := 2000000) only [↓RG, RP, true_and, and_true, beq_true, beq_false, Bool.true_beq, Bool.false_beq, BEq.rfl, Int.reduceEq, Int.reduceLT, Int.reduceLE, Nat.reduceEqDiff, decide_true, decide_false, Bool.not_true, Bool.not_false, Bool.and_true, Bool.true_and, Bool.and_false, Bool.false_and, Bool.or_true, Bool.true_or, Bool.or_false, Bool.false_or, Bool.not_not]
  refine s_levels_Levels_Open (s := ⟨5, ⟨[⟨9, 1⟩], []⟩, []⟩) ?_
  rw [show (lOpen ⟨5, ⟨[⟨9, 1⟩], []⟩, []⟩) = (⟨5, ⟨[], []⟩, [⟨[⟨9, 1⟩], []⟩]⟩, 0) by rfl]
  try simp (maxSteps := 2000000) only [↓RG, RP, true_and, and_true, beq_true, beq_false, Bool.true_beq, Bool.false_beq, BEq.rfl, Int.reduceEq, Int.reduceLT, Int.reduceLE, Nat.reduceEqDiff, decide_true, decide_false, Bool.not_true, Bool.not_false, Bool.and_true, Bool.true_and, Bool.and_false, Bool.false_and, Bool.or_true, Bool.true_or, Bool.or_false, Bool.false_or, Bool.not_not]
  refine s_levels_Levels_Put (s := ⟨5, ⟨[], []⟩, [⟨[⟨9, 1⟩], []⟩]⟩) ?_
  rw [show lErr ⟨5, ⟨[], []⟩, [⟨[⟨9, 1⟩], []⟩]⟩ 9 = 0 by decide, if_pos rfl]
  try simp (maxSteps := 2000000) only [↓RG, RP, true_and, and_true, beq_true, beq_false, Bool.true_beq, Bool.false_beq, BEq.rfl, Int.reduceEq, Int.reduceLT, Int.reduceLE, Nat.reduceEqDiff, decide_true, decide_false, Bool.not_true, Bool.not_false, Bool.and_true, Bool.true_and, Bool.and_false, Bool.false_and, Bool.or_true, Bool.true_or, Bool.or_false, Bool.false_or, Bool.not_not]
  refine s_levels_Levels_Get (s := ⟨5, ⟨[⟨9, 2⟩], []⟩, [⟨[⟨9, 1⟩], []⟩]⟩) ?_
  rw [show lookRV ⟨5, ⟨[⟨9, 2⟩], []⟩, [⟨[⟨9, 1⟩], []⟩]⟩ 9 = .tuple #[u64 2, .bool true] by rfl]
  try simp (maxSteps := 2000000) only [↓RG, RP, true_and, and_true, beq_true, beq_false, Bool.true_beq, Bool.false_beq, BEq.rfl, Int.reduceEq, Int.reduceLT, Int.reduceLE, Nat.reduceEqDiff, decide_true, decide_false, Bool.not_true, Bool.not_false, Bool.and_true, Bool.true_and, Bool.and_false, Bool.false_and, Bool.or_true, Bool.true_or, Bool.or_false, Bool.false_or, Bool.not_not]
  refine s_levels_Levels_Drop (s := ⟨5, ⟨[⟨9, 2⟩], []⟩, [⟨[⟨9, 1⟩], []⟩]⟩) ?_
  rw [show lDrop ⟨5, ⟨[⟨9, 2⟩], []⟩, [⟨[⟨9, 1⟩], []⟩]⟩ = (⟨5, ⟨[⟨9, 1⟩], []⟩, []⟩, 0) by rfl]
  try simp (maxSteps := 2000000) only [↓RG, RP, true_and, and_true, beq_true, beq_false, Bool.true_beq, Bool.false_beq, BEq.rfl, Int.reduceEq, Int.reduceLT, Int.reduceLE, Nat.reduceEqDiff, decide_true, decide_false, Bool.not_true, Bool.not_false, Bool.and_true, Bool.true_and, Bool.and_false, Bool.false_and, Bool.or_true, Bool.true_or, Bool.or_false, Bool.false_or, Bool.not_not]
  refine s_levels_Levels_Get (s := ⟨5, ⟨[⟨9, 1⟩], []⟩, []⟩) ?_
  rw [show lookRV ⟨5, ⟨[⟨9, 1⟩], []⟩, []⟩ 9 = .tuple #[u64 1, .bool true] by rfl]
  try simp (maxSteps := 2000000) only [↓RG, RP, true_and, and_true, beq_true, beq_false, Bool.true_beq, Bool.false_beq, BEq.rfl, Int.reduceEq, Int.reduceLT, Int.reduceLE, Nat.reduceEqDiff, decide_true, decide_false, Bool.not_true, Bool.not_false, Bool.and_true, Bool.true_and, Bool.and_false, Bool.false_and, Bool.or_true, Bool.true_or, Bool.or_false, Bool.false_or, Bool.not_not]
  refine s_levels_Levels_Open (s := ⟨5, ⟨[⟨9, 1⟩], []⟩, []⟩) ?_
  rw [show (lOpen ⟨5, ⟨[⟨9, 1⟩], []⟩, []⟩) = (⟨5, ⟨[], []⟩, [⟨[⟨9, 1⟩], []⟩]⟩, 0) by rfl]
  try simp (maxSteps := 2000000) only [↓RG, RP, true_and, and_true, beq_true, beq_false, Bool.true_beq, Bool.false_beq, BEq.rfl, Int.reduceEq, Int.reduceLT, Int.reduceLE, Nat.reduceEqDiff, decide_true, decide_false, Bool.not_true, Bool.not_false, Bool.and_true, Bool.true_and, Bool.and_false, Bool.false_and, Bool.or_true, Bool.true_or, Bool.or_false, Bool.false_or, Bool.not_not]
  refine s_levels_Levels_Put (s := ⟨5, ⟨[], []⟩, [⟨[⟨9, 1⟩], []⟩]⟩) ?_
  rw [show lErr ⟨5, ⟨[], []⟩, [⟨[⟨9, 1⟩], []⟩]⟩ 9 = 0 by decide, if_pos rfl]
  try simp (maxSteps := 2000000) only [↓RG, RP, true_and, and_true, beq_true, beq_false, Bool.true_beq, Bool.false_beq, BEq.rfl, Int.reduceEq, Int.reduceLT, Int.reduceLE, Nat.reduceEqDiff, decide_true, decide_false, Bool.not_true, Bool.not_false, Bool.and_true, Bool.true_and, Bool.and_false, Bool.false_and, Bool.or_true, Bool.true_or, Bool.or_false, Bool.false_or, Bool.not_not]
  refine s_levels_Levels_Free (s := ⟨5, ⟨[⟨9, 3⟩], []⟩, [⟨[⟨9, 1⟩], []⟩]⟩) (by simp) ?_
  try simp (maxSteps := 2000000) only [↓RG, RP, true_and, and_true, beq_true, beq_false, Bool.true_beq, Bool.false_beq, BEq.rfl, Int.reduceEq, Int.reduceLT, Int.reduceLE, Nat.reduceEqDiff, decide_true, decide_false, Bool.not_true, Bool.not_false, Bool.and_true, Bool.true_and, Bool.and_false, Bool.false_and, Bool.or_true, Bool.true_or, Bool.or_false, Bool.false_or, Bool.not_not]
  refine s_levels_Levels_Keep (s := ⟨5, ⟨[⟨9, 3⟩], [4]⟩, [⟨[⟨9, 1⟩], []⟩]⟩) (by decide) ?_
  rw [show lKeep ⟨5, ⟨[⟨9, 3⟩], [4]⟩, [⟨[⟨9, 1⟩], []⟩]⟩ = (⟨5, ⟨[⟨9, 3⟩], [4]⟩, []⟩, 0) by rfl]
  try simp (maxSteps := 2000000) only [↓RG, RP, true_and, and_true, beq_true, beq_false, Bool.true_beq, Bool.false_beq, BEq.rfl, Int.reduceEq, Int.reduceLT, Int.reduceLE, Nat.reduceEqDiff, decide_true, decide_false, Bool.not_true, Bool.not_false, Bool.and_true, Bool.true_and, Bool.and_false, Bool.false_and, Bool.or_true, Bool.true_or, Bool.or_false, Bool.false_or, Bool.not_not]
  refine s_levels_Levels_Cells (s := ⟨5, ⟨[⟨9, 3⟩], [4]⟩, []⟩) fun u hu => ?_
  rw [show LvS.cells ⟨5, ⟨[⟨9, 3⟩], [4]⟩, []⟩ = [⟨9, 3⟩] by rfl]
  refine s_levels_Levels_Frees (s := ⟨5, ⟨[⟨9, 3⟩], [4]⟩, []⟩) (by decide) fun u2 hu2 => ?_
  rw [show LvS.frees ⟨5, ⟨[⟨9, 3⟩], [4]⟩, []⟩ = [4] by rfl]
  try simp [↓RG, RP]
  refine s_levels_Levels_Depth (s := ⟨5, ⟨[⟨9, 3⟩], [4]⟩, []⟩) ?_
  try simp [↓RG, RP]
  refine s_levels_Levels_Room (s := ⟨5, ⟨[⟨9, 3⟩], [4]⟩, []⟩) ?_
  rw [show LvS.room ⟨5, ⟨[⟨9, 3⟩], [4]⟩, []⟩ = 4 by decide]
  try simp [↓RG, RP]
  refine s_levels_Levels_Keep (s := ⟨5, ⟨[⟨9, 3⟩], [4]⟩, []⟩) (by decide) ?_
  rw [show lKeep ⟨5, ⟨[⟨9, 3⟩], [4]⟩, []⟩ = (⟨5, ⟨[⟨9, 3⟩], [4]⟩, []⟩, 10) by rfl]
  try simp (maxSteps := 2000000) only [↓RG, RP, true_and, and_true, beq_true, beq_false, Bool.true_beq, Bool.false_beq, BEq.rfl, Int.reduceEq, Int.reduceLT, Int.reduceLE, Nat.reduceEqDiff, decide_true, decide_false, Bool.not_true, Bool.not_false, Bool.and_true, Bool.true_and, Bool.and_false, Bool.false_and, Bool.or_true, Bool.true_or, Bool.or_false, Bool.false_or, Bool.not_not]
  exact hK.sub

theorem s_law9_flat {l : Value} {qs : List AskLevels} [i : SelOb L LevelsR b s C] [a : Arg w0 l askLevelsE qs] (hr : (totalC (s.r :: s.up) : Int) + 12 ≤ s.most) (hf : s.r.f.length ≤ 1000)
    (hK : G w0 (C (ob LevelsR b ⟨s.most, flatR s.r (qs.take 12), s.up⟩)) (K (.bool true))) : G w0 L (CP Try.prog Fn.law9_flat [ptr b 0, l] K) := by
  refine i.use (fun M hK => ?_) hK
  refine C_law9_flat ?_
  unfold S_law9_flat
  try simp (maxSteps := 2000000) only [fuse_and, fuse_or, fuse_step, fuse_pair, fuse_in, andP_true]
  refine G.loop1 (fun k : Nat => i64 k) (fun k => ob LevelsR b ⟨s.most, flatR s.r (qs.take k), s.up⟩ :: M) (fun k => k ≤ qs.length ∧ k ≤ 12) (fun k => qs.length - k) 0 rfl rfl ⟨by simp, by simp⟩ ?_
  rintro k ⟨hk, hk12⟩ J hJ
  try simp (maxSteps := 2000000) only [↓RG, RP, true_and, and_true, beq_true, beq_false, Bool.true_beq, Bool.false_beq, BEq.rfl, Int.reduceEq, Int.reduceLT, Int.reduceLE, Nat.reduceEqDiff, decide_true, decide_false, Bool.not_true, Bool.not_false, Bool.and_true, Bool.true_and, Bool.and_false, Bool.false_and, Bool.or_true, Bool.true_or, Bool.or_false, Bool.false_or, Bool.not_not]
  refine G.cond (fun h => ?_) (fun h => ?_)
  · have hk2 : k < qs.length ∧ k < 12 := by simp at h; omega
    have e := elem_of hk2.1
    have t := flatR_take (r := s.r) hk2.1
    have hJ := hJ (k + 1) ⟨hk2.1, hk2.2⟩ (by omega)
    rw [t] at hJ
    have c1 := flatR_c (l := qs.take k) (r := s.r)
    have c2 := flatR_f (l := qs.take k) (r := s.r)
    have c3 : (qs.take k).length ≤ 11 := by rw [List.length_take]; omega
    generalize flatR s.r (qs.take k) = r at hJ c1 c2 ⊢
    unfold flat1 at hJ
    try simp (maxSteps := 2000000) only [↓RG, RP, true_and, and_true, beq_true, beq_false, Bool.true_beq, Bool.false_beq, BEq.rfl, Int.reduceEq, Int.reduceLT, Int.reduceLE, Nat.reduceEqDiff, decide_true, decide_false, Bool.not_true, Bool.not_false, Bool.and_true, Bool.true_and, Bool.and_false, Bool.false_and, Bool.or_true, Bool.true_or, Bool.or_false, Bool.false_or, Bool.not_not]
    refine G.joini0 ?_
    refine G.cond (fun h => ?_) (fun h => ?_)
    · have h2 : isFree qs[k] = true := h
      rw [if_pos h2] at hJ
      try simp (maxSteps := 2000000) only [↓RG, RP, true_and, and_true, beq_true, beq_false, Bool.true_beq, Bool.false_beq, BEq.rfl, Int.reduceEq, Int.reduceLT, Int.reduceLE, Nat.reduceEqDiff, decide_true, decide_false, Bool.not_true, Bool.not_false, Bool.and_true, Bool.true_and, Bool.and_false, Bool.false_and, Bool.or_true, Bool.true_or, Bool.or_false, Bool.false_or, Bool.not_not]
      refine s_levels_Levels_Free (s := ⟨s.most, r, s.up⟩) (by show r.f.length ≤ 1000000; omega) ?_
      try simp (maxSteps := 2000000) only [↓RG, RP, true_and, and_true, beq_true, beq_false, Bool.true_beq, Bool.false_beq, BEq.rfl, Int.reduceEq, Int.reduceLT, Int.reduceLE, Nat.reduceEqDiff, decide_true, decide_false, Bool.not_true, Bool.not_false, Bool.and_true, Bool.true_and, Bool.and_false, Bool.false_and, Bool.or_true, Bool.true_or, Bool.or_false, Bool.false_or, Bool.not_not]
      rw [wsucc (by omega)]
      exact hJ
    · have h2 : ¬ isFree qs[k] = true := by rw [show isFree qs[k] = false from h]; decide
      rw [if_neg h2] at hJ
      repeat' (first | (with_reducible refine G.joini0 ?_) | (with_reducible refine G.joini1 ?_) | (with_reducible refine G.drew ?_) | (simp (maxSteps := 2000000) only [↓RG, RP, true_and, and_true, beq_true, beq_false, Bool.true_beq, Bool.false_beq, BEq.rfl, Int.reduceEq, Int.reduceLT, Int.reduceLE, Nat.reduceEqDiff, decide_true, decide_false, Bool.not_true, Bool.not_false, Bool.and_true, Bool.true_and, Bool.and_false, Bool.false_and, Bool.or_true, Bool.true_or, Bool.or_false, Bool.false_or, Bool.not_not]))
      refine s_book_Within (by omega) (by omega) (by omega) (by omega) ?_
      repeat' (first | (with_reducible refine G.joini0 ?_) | (with_reducible refine G.joini1 ?_) | (with_reducible refine G.drew ?_) | (simp (maxSteps := 2000000) only [↓RG, RP, true_and, and_true, beq_true, beq_false, Bool.true_beq, Bool.false_beq, BEq.rfl, Int.reduceEq, Int.reduceLT, Int.reduceLE, Nat.reduceEqDiff, decide_true, decide_false, Bool.not_true, Bool.not_false, Bool.and_true, Bool.true_and, Bool.and_false, Bool.false_and, Bool.or_true, Bool.true_or, Bool.or_false, Bool.false_or, Bool.not_not]))
      have h0 : lErr ⟨s.most, r, s.up⟩ (within qs[k].place 1 20) = 0 := by
        unfold lErr
        rw [if_pos okAt_within]
        split
        · rfl
        · rw [if_neg]
          unfold LvS.room
          rw [totalC_cons] at hr ⊢
          simp only
          omega
      refine s_levels_Levels_Put (s := ⟨s.most, r, s.up⟩) ?_
      rw [h0, if_pos rfl]
      repeat' (first | (with_reducible refine G.joini0 ?_) | (with_reducible refine G.joini1 ?_) | (with_reducible refine G.drew ?_) | (simp (maxSteps := 2000000) only [↓RG, RP, true_and, and_true, beq_true, beq_false, Bool.true_beq, Bool.false_beq, BEq.rfl, Int.reduceEq, Int.reduceLT, Int.reduceLE, Nat.reduceEqDiff, decide_true, decide_false, Bool.not_true, Bool.not_false, Bool.and_true, Bool.true_and, Bool.and_false, Bool.false_and, Bool.or_true, Bool.true_or, Bool.or_false, Bool.false_or, Bool.not_not]))
      rw [wsucc (by omega)]
      exact hJ
  · have ht : qs.take 12 = qs.take k := by
      have h2 : ¬ (k < qs.length ∧ k < 12) := by simp at h; omega
      rcases Nat.lt_or_ge k 12 with h3 | h3
      · rw [List.take_of_length_le (by omega), List.take_of_length_le (by omega)]
      · rw [show k = 12 by omega]
    rw [ht] at hK
    exact hK

theorem s_law9_LevelsDrop {l1 l2 l3 : Value} {q1 q2 q3 : List AskLevels} [a1 : Arg w0 l1 askLevelsE q1] [a2 : Arg w0 l2 askLevelsE q2] [a3 : Arg w0 l3 askLevelsE q3] (hK : G w0 L (K (.bool true))) : G w0 L (CP Try.prog Fn.law9_LevelsDrop [l1, l2, l3] K) := by
  refine C_law9_LevelsDrop ?_
  unfold S_law9_LevelsDrop
  refine s_law9_LevelsRuns ?_
  try simp (maxSteps := 2000000) only [fuse_and, fuse_or, fuse_step, fuse_pair, fuse_in, andP_true]
  try simp (maxSteps := 2000000) only [↓RG, RP, true_and, and_true, beq_true, beq_false, Bool.true_beq, Bool.false_beq, BEq.rfl, Int.reduceEq, Int.reduceLT, Int.reduceLE, Nat.reduceEqDiff, decide_true, decide_false, Bool.not_true, Bool.not_false, Bool.and_true, Bool.true_and, Bool.and_false, Bool.false_and, Bool.or_true, Bool.true_or, Bool.or_false, Bool.false_or, Bool.not_not]
  refine s_levels_New fun b => ?_
  rw [show held 96 0 96 = 96 from rfl]
  try simp (maxSteps := 2000000) only [↓RG, RP, true_and, and_true, beq_true, beq_false, Bool.true_beq, Bool.false_beq, BEq.rfl, Int.reduceEq, Int.reduceLT, Int.reduceLE, Nat.reduceEqDiff, decide_true, decide_false, Bool.not_true, Bool.not_false, Bool.and_true, Bool.true_and, Bool.and_false, Bool.false_and, Bool.or_true, Bool.true_or, Bool.or_false, Bool.false_or, Bool.not_not]
  refine s_law9_flat (s := ⟨96, ⟨[], []⟩, []⟩) (by decide) (by simp) ?_
  have c1 := flatR_c (l := q1.take 12) (r := ⟨[], []⟩)
  have f1 := flatR_f (l := q1.take 12) (r := ⟨[], []⟩)
  have z1 : (q1.take 12).length ≤ 12 := by rw [List.length_take]; omega
  generalize flatR ⟨[], []⟩ (q1.take 12) = r1 at c1 f1 ⊢
  simp only [List.length_nil] at c1 f1
  try simp (maxSteps := 2000000) only [↓RG, RP, true_and, and_true, beq_true, beq_false, Bool.true_beq, Bool.false_beq, BEq.rfl, Int.reduceEq, Int.reduceLT, Int.reduceLE, Nat.reduceEqDiff, decide_true, decide_false, Bool.not_true, Bool.not_false, Bool.and_true, Bool.true_and, Bool.and_false, Bool.false_and, Bool.or_true, Bool.true_or, Bool.or_false, Bool.false_or, Bool.not_not]
  refine G.okL (b := b) (s := ⟨96, r1, []⟩) fun hs => ?_
  refine s_levels_Levels_Cells (s := ⟨96, r1, []⟩) fun u hu => ?_
  refine s_levels_Levels_Frees (s := ⟨96, r1, []⟩) (by simp [LvS.frees, freesR]; omega) fun u2 hu2 => ?_
  refine s_levels_Levels_Room (s := ⟨96, r1, []⟩) ?_
  refine s_levels_Levels_Open (s := ⟨96, r1, []⟩) ?_
  rw [show lOpen ⟨96, r1, []⟩ = (⟨96, ⟨[], []⟩, [r1]⟩, 0) from rfl]
  try simp (maxSteps := 2000000) only [↓RG, RP, true_and, and_true, beq_true, beq_false, Bool.true_beq, Bool.false_beq, BEq.rfl, Int.reduceEq, Int.reduceLT, Int.reduceLE, Nat.reduceEqDiff, decide_true, decide_false, Bool.not_true, Bool.not_false, Bool.and_true, Bool.true_and, Bool.and_false, Bool.false_and, Bool.or_true, Bool.true_or, Bool.or_false, Bool.false_or, Bool.not_not]
  refine s_law9_flat (s := ⟨96, ⟨[], []⟩, [r1]⟩) (by simp [totalC]; omega) (by simp) ?_
  have c2 := flatR_c (l := q2.take 12) (r := ⟨[], []⟩)
  have f2 := flatR_f (l := q2.take 12) (r := ⟨[], []⟩)
  have z2 : (q2.take 12).length ≤ 12 := by rw [List.length_take]; omega
  generalize flatR ⟨[], []⟩ (q2.take 12) = r2 at c2 f2 ⊢
  simp only [List.length_nil] at c2 f2
  try simp (maxSteps := 2000000) only [↓RG, RP, true_and, and_true, beq_true, beq_false, Bool.true_beq, Bool.false_beq, BEq.rfl, Int.reduceEq, Int.reduceLT, Int.reduceLE, Nat.reduceEqDiff, decide_true, decide_false, Bool.not_true, Bool.not_false, Bool.and_true, Bool.true_and, Bool.and_false, Bool.false_and, Bool.or_true, Bool.true_or, Bool.or_false, Bool.false_or, Bool.not_not]
  refine s_levels_Levels_Open (s := ⟨96, r2, [r1]⟩) ?_
  rw [show lOpen ⟨96, r2, [r1]⟩ = (⟨96, ⟨[], []⟩, [r2, r1]⟩, 0) from rfl]
  try simp (maxSteps := 2000000) only [↓RG, RP, true_and, and_true, beq_true, beq_false, Bool.true_beq, Bool.false_beq, BEq.rfl, Int.reduceEq, Int.reduceLT, Int.reduceLE, Nat.reduceEqDiff, decide_true, decide_false, Bool.not_true, Bool.not_false, Bool.and_true, Bool.true_and, Bool.and_false, Bool.false_and, Bool.or_true, Bool.true_or, Bool.or_false, Bool.false_or, Bool.not_not]
  refine s_law9_flat (s := ⟨96, ⟨[], []⟩, [r2, r1]⟩) (by simp [totalC]; omega) (by simp) ?_
  have c3 := flatR_c (l := q3.take 12) (r := ⟨[], []⟩)
  have f3 := flatR_f (l := q3.take 12) (r := ⟨[], []⟩)
  have z3 : (q3.take 12).length ≤ 12 := by rw [List.length_take]; omega
  generalize flatR ⟨[], []⟩ (q3.take 12) = r3 at c3 f3 ⊢
  simp only [List.length_nil] at c3 f3
  try simp (maxSteps := 2000000) only [↓RG, RP, true_and, and_true, beq_true, beq_false, Bool.true_beq, Bool.false_beq, BEq.rfl, Int.reduceEq, Int.reduceLT, Int.reduceLE, Nat.reduceEqDiff, decide_true, decide_false, Bool.not_true, Bool.not_false, Bool.and_true, Bool.true_and, Bool.and_false, Bool.false_and, Bool.or_true, Bool.true_or, Bool.or_false, Bool.false_or, Bool.not_not]
  refine s_levels_Levels_Keep (s := ⟨96, r3, [r2, r1]⟩) (by simp [LvS.frees, freesR]; omega) ?_
  rw [show lKeep ⟨96, r3, [r2, r1]⟩ = (⟨96, ⟨putsC r2.c r3.c, r2.f ++ r3.f⟩, [r1]⟩, 0) from rfl]
  try simp (maxSteps := 2000000) only [↓RG, RP, true_and, and_true, beq_true, beq_false, Bool.true_beq, Bool.false_beq, BEq.rfl, Int.reduceEq, Int.reduceLT, Int.reduceLE, Nat.reduceEqDiff, decide_true, decide_false, Bool.not_true, Bool.not_false, Bool.and_true, Bool.true_and, Bool.and_false, Bool.false_and, Bool.or_true, Bool.true_or, Bool.or_false, Bool.false_or, Bool.not_not]
  refine s_levels_Levels_Drop (s := ⟨96, ⟨putsC r2.c r3.c, r2.f ++ r3.f⟩, [r1]⟩) ?_
  rw [show lDrop ⟨96, ⟨putsC r2.c r3.c, r2.f ++ r3.f⟩, [r1]⟩ = (⟨96, r1, []⟩, 0) from rfl]
  try simp (maxSteps := 2000000) only [↓RG, RP, true_and, and_true, beq_true, beq_false, Bool.true_beq, Bool.false_beq, BEq.rfl, Int.reduceEq, Int.reduceLT, Int.reduceLE, Nat.reduceEqDiff, decide_true, decide_false, Bool.not_true, Bool.not_false, Bool.and_true, Bool.true_and, Bool.and_false, Bool.false_and, Bool.or_true, Bool.true_or, Bool.or_false, Bool.false_or, Bool.not_not]
  refine s_levels_Levels_Cells (s := ⟨96, r1, []⟩) fun u3 hu3 => ?_
  refine s_book_Same_api_Cell (xs := LvS.cells ⟨96, r1, []⟩) (ys := LvS.cells ⟨96, r1, []⟩) (by have := cells_le hs; omega) ?_
  try simp (maxSteps := 2000000) only [↓RG, RP, true_and, and_true, beq_true, beq_false, Bool.true_beq, Bool.false_beq, BEq.rfl, Int.reduceEq, Int.reduceLT, Int.reduceLE, Nat.reduceEqDiff, decide_true, decide_false, Bool.not_true, Bool.not_false, Bool.and_true, Bool.true_and, Bool.and_false, Bool.false_and, Bool.or_true, Bool.true_or, Bool.or_false, Bool.false_or, Bool.not_not]
  refine s_levels_Levels_Frees (s := ⟨96, r1, []⟩) (by simp [LvS.frees, freesR]; omega) fun u4 hu4 => ?_
  refine s_book_Same_int (xs := LvS.frees ⟨96, r1, []⟩) (ys := LvS.frees ⟨96, r1, []⟩) (by simp [LvS.frees, freesR]; omega) ?_
  try simp (maxSteps := 2000000) only [↓RG, RP, true_and, and_true, beq_true, beq_false, Bool.true_beq, Bool.false_beq, BEq.rfl, Int.reduceEq, Int.reduceLT, Int.reduceLE, Nat.reduceEqDiff, decide_true, decide_false, Bool.not_true, Bool.not_false, Bool.and_true, Bool.true_and, Bool.and_false, Bool.false_and, Bool.or_true, Bool.true_or, Bool.or_false, Bool.false_or, Bool.not_not]
  refine s_levels_Levels_Room (s := ⟨96, r1, []⟩) ?_
  try simp (maxSteps := 2000000) only [↓RG, RP, true_and, and_true, beq_true, beq_false, Bool.true_beq, Bool.false_beq, BEq.rfl, Int.reduceEq, Int.reduceLT, Int.reduceLE, Nat.reduceEqDiff, decide_true, decide_false, Bool.not_true, Bool.not_false, Bool.and_true, Bool.true_and, Bool.and_false, Bool.false_and, Bool.or_true, Bool.true_or, Bool.or_false, Bool.false_or, Bool.not_not]
  refine s_levels_Levels_Depth (s := ⟨96, r1, []⟩) ?_
  try simp [↓RG, RP]
  exact hK.sub

theorem s_law9_LevelsKeep {l1 l2 l3 : Value} {q1 q2 q3 : List AskLevels} [a1 : Arg w0 l1 askLevelsE q1] [a2 : Arg w0 l2 askLevelsE q2] [a3 : Arg w0 l3 askLevelsE q3] (hK : G w0 L (K (.bool true))) : G w0 L (CP Try.prog Fn.law9_LevelsKeep [l1, l2, l3] K) := by
  refine C_law9_LevelsKeep ?_
  unfold S_law9_LevelsKeep
  refine s_law9_LevelsRuns ?_
  try simp (maxSteps := 2000000) only [fuse_and, fuse_or, fuse_step, fuse_pair, fuse_in, andP_true]
  try simp (maxSteps := 2000000) only [↓RG, RP, true_and, and_true, beq_true, beq_false, Bool.true_beq, Bool.false_beq, BEq.rfl, Int.reduceEq, Int.reduceLT, Int.reduceLE, Nat.reduceEqDiff, decide_true, decide_false, Bool.not_true, Bool.not_false, Bool.and_true, Bool.true_and, Bool.and_false, Bool.false_and, Bool.or_true, Bool.true_or, Bool.or_false, Bool.false_or, Bool.not_not]
  refine s_levels_New fun b => ?_
  rw [show held 96 0 96 = 96 from rfl]
  try simp (maxSteps := 2000000) only [↓RG, RP, true_and, and_true, beq_true, beq_false, Bool.true_beq, Bool.false_beq, BEq.rfl, Int.reduceEq, Int.reduceLT, Int.reduceLE, Nat.reduceEqDiff, decide_true, decide_false, Bool.not_true, Bool.not_false, Bool.and_true, Bool.true_and, Bool.and_false, Bool.false_and, Bool.or_true, Bool.true_or, Bool.or_false, Bool.false_or, Bool.not_not]
  refine s_levels_New fun d => ?_
  rw [show held 96 0 96 = 96 from rfl]
  try simp (maxSteps := 2000000) only [↓RG, RP, true_and, and_true, beq_true, beq_false, Bool.true_beq, Bool.false_beq, BEq.rfl, Int.reduceEq, Int.reduceLT, Int.reduceLE, Nat.reduceEqDiff, decide_true, decide_false, Bool.not_true, Bool.not_false, Bool.and_true, Bool.true_and, Bool.and_false, Bool.false_and, Bool.or_true, Bool.true_or, Bool.or_false, Bool.false_or, Bool.not_not]
  refine s_law9_flat (b := b) (s := ⟨96, ⟨[], []⟩, []⟩) (by decide) (by simp) ?_
  have c1 := flatR_c (l := q1.take 12) (r := ⟨[], []⟩)
  have f1 := flatR_f (l := q1.take 12) (r := ⟨[], []⟩)
  have o1 := flatR_ok (l := q1.take 12) (r := ⟨[], []⟩) .nil
  have z1 : (q1.take 12).length ≤ 12 := by rw [List.length_take]; omega
  generalize hr1 : flatR ⟨[], []⟩ (q1.take 12) = r1 at c1 f1 o1 ⊢
  simp only [List.length_nil] at c1 f1
  try simp (maxSteps := 2000000) only [↓RG, RP, true_and, and_true, beq_true, beq_false, Bool.true_beq, Bool.false_beq, BEq.rfl, Int.reduceEq, Int.reduceLT, Int.reduceLE, Nat.reduceEqDiff, decide_true, decide_false, Bool.not_true, Bool.not_false, Bool.and_true, Bool.true_and, Bool.and_false, Bool.false_and, Bool.or_true, Bool.true_or, Bool.or_false, Bool.false_or, Bool.not_not]
  refine s_levels_Levels_Open (b := b) (s := ⟨96, r1, []⟩) ?_
  rw [show lOpen ⟨96, r1, []⟩ = (⟨96, ⟨[], []⟩, [r1]⟩, 0) from rfl]
  try simp (maxSteps := 2000000) only [↓RG, RP, true_and, and_true, beq_true, beq_false, Bool.true_beq, Bool.false_beq, BEq.rfl, Int.reduceEq, Int.reduceLT, Int.reduceLE, Nat.reduceEqDiff, decide_true, decide_false, Bool.not_true, Bool.not_false, Bool.and_true, Bool.true_and, Bool.and_false, Bool.false_and, Bool.or_true, Bool.true_or, Bool.or_false, Bool.false_or, Bool.not_not]
  refine s_law9_flat (b := b) (s := ⟨96, ⟨[], []⟩, [r1]⟩) (by simp [totalC]; omega) (by simp) ?_
  have c2 := flatR_c (l := q2.take 12) (r := ⟨[], []⟩)
  have f2 := flatR_f (l := q2.take 12) (r := ⟨[], []⟩)
  have k2 := flatR_from (l := q2.take 12) (r := r1) (q := ⟨[], []⟩) .nil (z := r1) (by simp [putsC])
  have o2 := flatR_ok (l := q2.take 12) (r := ⟨[], []⟩) .nil
  have z2 : (q2.take 12).length ≤ 12 := by rw [List.length_take]; omega
  generalize flatR ⟨[], []⟩ (q2.take 12) = r2 at c2 f2 k2 o2 ⊢
  simp only [List.length_nil] at c2 f2
  try simp (maxSteps := 2000000) only [↓RG, RP, true_and, and_true, beq_true, beq_false, Bool.true_beq, Bool.false_beq, BEq.rfl, Int.reduceEq, Int.reduceLT, Int.reduceLE, Nat.reduceEqDiff, decide_true, decide_false, Bool.not_true, Bool.not_false, Bool.and_true, Bool.true_and, Bool.and_false, Bool.false_and, Bool.or_true, Bool.true_or, Bool.or_false, Bool.false_or, Bool.not_not]
  refine s_levels_Levels_Open (b := b) (s := ⟨96, r2, [r1]⟩) ?_
  rw [show lOpen ⟨96, r2, [r1]⟩ = (⟨96, ⟨[], []⟩, [r2, r1]⟩, 0) from rfl]
  try simp (maxSteps := 2000000) only [↓RG, RP, true_and, and_true, beq_true, beq_false, Bool.true_beq, Bool.false_beq, BEq.rfl, Int.reduceEq, Int.reduceLT, Int.reduceLE, Nat.reduceEqDiff, decide_true, decide_false, Bool.not_true, Bool.not_false, Bool.and_true, Bool.true_and, Bool.and_false, Bool.false_and, Bool.or_true, Bool.true_or, Bool.or_false, Bool.false_or, Bool.not_not]
  refine s_law9_flat (b := b) (s := ⟨96, ⟨[], []⟩, [r2, r1]⟩) (by simp [totalC]; omega) (by simp) ?_
  have c3 := flatR_c (l := q3.take 12) (r := ⟨[], []⟩)
  have f3 := flatR_f (l := q3.take 12) (r := ⟨[], []⟩)
  have k3 := flatR_from (l := q3.take 12) (r := ⟨putsC r1.c r2.c, r1.f ++ r2.f⟩) (q := ⟨[], []⟩) .nil (z := ⟨putsC r1.c r2.c, r1.f ++ r2.f⟩) (by simp [putsC])
  have k4 := flatR_from (l := q3.take 12) (r := r2) (q := ⟨[], []⟩) .nil (z := r2) (by simp [putsC])
  have k5 := flatR_from (l := q3.take 12) (r := r1) (q := r2) o2 (z := ⟨putsC r1.c r2.c, r1.f ++ r2.f⟩) rfl
  have z3 : (q3.take 12).length ≤ 12 := by rw [List.length_take]; omega
  rw [k4] at k5
  generalize hr3 : flatR ⟨[], []⟩ (q3.take 12) = r3 at c3 f3 k4 k5 ⊢
  simp only [List.length_nil] at c3 f3
  try simp (maxSteps := 2000000) only [↓RG, RP, true_and, and_true, beq_true, beq_false, Bool.true_beq, Bool.false_beq, BEq.rfl, Int.reduceEq, Int.reduceLT, Int.reduceLE, Nat.reduceEqDiff, decide_true, decide_false, Bool.not_true, Bool.not_false, Bool.and_true, Bool.true_and, Bool.and_false, Bool.false_and, Bool.or_true, Bool.true_or, Bool.or_false, Bool.false_or, Bool.not_not]
  refine s_law9_flat (b := d) (s := ⟨96, ⟨[], []⟩, []⟩) (by decide) (by simp) ?_
  try simp (maxSteps := 2000000) only [↓RG, RP, true_and, and_true, beq_true, beq_false, Bool.true_beq, Bool.false_beq, BEq.rfl, Int.reduceEq, Int.reduceLT, Int.reduceLE, Nat.reduceEqDiff, decide_true, decide_false, Bool.not_true, Bool.not_false, Bool.and_true, Bool.true_and, Bool.and_false, Bool.false_and, Bool.or_true, Bool.true_or, Bool.or_false, Bool.false_or, Bool.not_not, hr1]
  refine s_law9_flat (b := d) (s := ⟨96, r1, []⟩) (by simp [totalC]; omega) (by show r1.f.length ≤ 1000; omega) ?_
  try simp (maxSteps := 2000000) only [↓RG, RP, true_and, and_true, beq_true, beq_false, Bool.true_beq, Bool.false_beq, BEq.rfl, Int.reduceEq, Int.reduceLT, Int.reduceLE, Nat.reduceEqDiff, decide_true, decide_false, Bool.not_true, Bool.not_false, Bool.and_true, Bool.true_and, Bool.and_false, Bool.false_and, Bool.or_true, Bool.true_or, Bool.or_false, Bool.false_or, Bool.not_not, k2]
  have p12 := putsC_le (cs := r1.c) (l := r2.c)
  refine s_law9_flat (b := d) (s := ⟨96, ⟨putsC r1.c r2.c, r1.f ++ r2.f⟩, []⟩) (by simp [totalC]; omega) (by simp; omega) ?_
  simp only [k5]
  try simp (maxSteps := 2000000) only [↓RG, RP, true_and, and_true, beq_true, beq_false, Bool.true_beq, Bool.false_beq, BEq.rfl, Int.reduceEq, Int.reduceLT, Int.reduceLE, Nat.reduceEqDiff, decide_true, decide_false, Bool.not_true, Bool.not_false, Bool.and_true, Bool.true_and, Bool.and_false, Bool.false_and, Bool.or_true, Bool.true_or, Bool.or_false, Bool.false_or, Bool.not_not]
  refine G.okL (b := d) (s := ⟨96, ⟨putsC r1.c (putsC r2.c r3.c), r1.f ++ (r2.f ++ r3.f)⟩, []⟩) fun hs => ?_
  have hle : (putsC r1.c (putsC r2.c r3.c)).length ≤ 96 := cells_le hs
  refine s_levels_Levels_Cells (b := b) (s := ⟨96, r3, [r2, r1]⟩) fun u hu => ?_
  rw [show LvS.cells ⟨96, r3, [r2, r1]⟩ = putsC r1.c (putsC r2.c r3.c) from rfl]
  refine s_levels_Levels_Frees (b := b) (s := ⟨96, r3, [r2, r1]⟩) (by simp [LvS.frees, freesR]; omega) fun u2 hu2 => ?_
  rw [show LvS.frees ⟨96, r3, [r2, r1]⟩ = r1.f ++ (r2.f ++ r3.f) by simp [LvS.frees, freesR]]
  refine s_levels_Levels_Keep (b := b) (s := ⟨96, r3, [r2, r1]⟩) (by simp [LvS.frees, freesR]; omega) ?_
  rw [show lKeep ⟨96, r3, [r2, r1]⟩ = (⟨96, ⟨putsC r2.c r3.c, r2.f ++ r3.f⟩, [r1]⟩, 0) from rfl]
  try simp (maxSteps := 2000000) only [↓RG, RP, true_and, and_true, beq_true, beq_false, Bool.true_beq, Bool.false_beq, BEq.rfl, Int.reduceEq, Int.reduceLT, Int.reduceLE, Nat.reduceEqDiff, decide_true, decide_false, Bool.not_true, Bool.not_false, Bool.and_true, Bool.true_and, Bool.and_false, Bool.false_and, Bool.or_true, Bool.true_or, Bool.or_false, Bool.false_or, Bool.not_not]
  refine s_levels_Levels_Keep (b := b) (s := ⟨96, ⟨putsC r2.c r3.c, r2.f ++ r3.f⟩, [r1]⟩) (by simp [LvS.frees, freesR]; omega) ?_
  rw [show lKeep ⟨96, ⟨putsC r2.c r3.c, r2.f ++ r3.f⟩, [r1]⟩ = (⟨96, ⟨putsC r1.c (putsC r2.c r3.c), r1.f ++ (r2.f ++ r3.f)⟩, []⟩, 0) from rfl]
  try simp (maxSteps := 2000000) only [↓RG, RP, true_and, and_true, beq_true, beq_false, Bool.true_beq, Bool.false_beq, BEq.rfl, Int.reduceEq, Int.reduceLT, Int.reduceLE, Nat.reduceEqDiff, decide_true, decide_false, Bool.not_true, Bool.not_false, Bool.and_true, Bool.true_and, Bool.and_false, Bool.false_and, Bool.or_true, Bool.true_or, Bool.or_false, Bool.false_or, Bool.not_not]
  refine s_levels_Levels_Keep (b := b) (s := ⟨96, ⟨putsC r1.c (putsC r2.c r3.c), r1.f ++ (r2.f ++ r3.f)⟩, []⟩) (by simp [LvS.frees, freesR]; omega) ?_
  rw [show lKeep ⟨96, ⟨putsC r1.c (putsC r2.c r3.c), r1.f ++ (r2.f ++ r3.f)⟩, []⟩ = (⟨96, ⟨putsC r1.c (putsC r2.c r3.c), r1.f ++ (r2.f ++ r3.f)⟩, []⟩, 10) from rfl]
  generalize putsC r1.c (putsC r2.c r3.c) = cc at hle ⊢
  have hff : (r1.f ++ (r2.f ++ r3.f)).length ≤ 36 := by simp; omega
  generalize r1.f ++ (r2.f ++ r3.f) = ff at hff ⊢
  try simp (maxSteps := 2000000) only [↓RG, RP, true_and, and_true, beq_true, beq_false, Bool.true_beq, Bool.false_beq, BEq.rfl, Int.reduceEq, Int.reduceLT, Int.reduceLE, Nat.reduceEqDiff, decide_true, decide_false, Bool.not_true, Bool.not_false, Bool.and_true, Bool.true_and, Bool.and_false, Bool.false_and, Bool.or_true, Bool.true_or, Bool.or_false, Bool.false_or, Bool.not_not]
  refine s_levels_Levels_Cells (b := d) (s := ⟨96, ⟨cc, ff⟩, []⟩) fun u3 hu3 => ?_
  rw [show LvS.cells ⟨96, ⟨cc, ff⟩, []⟩ = cc from rfl]
  refine s_book_Same_api_Cell (xs := cc) (ys := cc) (by omega) ?_
  try simp (maxSteps := 2000000) only [↓RG, RP, true_and, and_true, beq_true, beq_false, Bool.true_beq, Bool.false_beq, BEq.rfl, Int.reduceEq, Int.reduceLT, Int.reduceLE, Nat.reduceEqDiff, decide_true, decide_false, Bool.not_true, Bool.not_false, Bool.and_true, Bool.true_and, Bool.and_false, Bool.false_and, Bool.or_true, Bool.true_or, Bool.or_false, Bool.false_or, Bool.not_not]
  refine s_levels_Levels_Cells (b := b) (s := ⟨96, ⟨cc, ff⟩, []⟩) fun u4 hu4 => ?_
  rw [show LvS.cells ⟨96, ⟨cc, ff⟩, []⟩ = cc from rfl]
  refine s_book_Same_api_Cell (xs := cc) (ys := cc) (by omega) ?_
  try simp (maxSteps := 2000000) only [↓RG, RP, true_and, and_true, beq_true, beq_false, Bool.true_beq, Bool.false_beq, BEq.rfl, Int.reduceEq, Int.reduceLT, Int.reduceLE, Nat.reduceEqDiff, decide_true, decide_false, Bool.not_true, Bool.not_false, Bool.and_true, Bool.true_and, Bool.and_false, Bool.false_and, Bool.or_true, Bool.true_or, Bool.or_false, Bool.false_or, Bool.not_not]
  have hfr : LvS.frees ⟨96, ⟨cc, ff⟩, []⟩ = ff := by simp [LvS.frees, freesR]
  refine s_levels_Levels_Frees (b := d) (s := ⟨96, ⟨cc, ff⟩, []⟩) (by rw [hfr]; omega) fun u5 hu5 => ?_
  rw [hfr]
  refine s_book_Same_int (xs := ff) (ys := ff) (by omega) ?_
  try simp (maxSteps := 2000000) only [↓RG, RP, true_and, and_true, beq_true, beq_false, Bool.true_beq, Bool.false_beq, BEq.rfl, Int.reduceEq, Int.reduceLT, Int.reduceLE, Nat.reduceEqDiff, decide_true, decide_false, Bool.not_true, Bool.not_false, Bool.and_true, Bool.true_and, Bool.and_false, Bool.false_and, Bool.or_true, Bool.true_or, Bool.or_false, Bool.false_or, Bool.not_not]
  refine s_levels_Levels_Frees (b := b) (s := ⟨96, ⟨cc, ff⟩, []⟩) (by rw [hfr]; omega) fun u6 hu6 => ?_
  rw [hfr]
  refine s_book_Same_int (xs := ff) (ys := ff) (by omega) ?_
  try simp (maxSteps := 2000000) only [↓RG, RP, true_and, and_true, beq_true, beq_false, Bool.true_beq, Bool.false_beq, BEq.rfl, Int.reduceEq, Int.reduceLT, Int.reduceLE, Nat.reduceEqDiff, decide_true, decide_false, Bool.not_true, Bool.not_false, Bool.and_true, Bool.true_and, Bool.and_false, Bool.false_and, Bool.or_true, Bool.true_or, Bool.or_false, Bool.false_or, Bool.not_not]
  refine s_levels_Levels_Room (b := b) (s := ⟨96, ⟨cc, ff⟩, []⟩) ?_
  try simp (maxSteps := 2000000) only [↓RG, RP, true_and, and_true, beq_true, beq_false, Bool.true_beq, Bool.false_beq, BEq.rfl, Int.reduceEq, Int.reduceLT, Int.reduceLE, Nat.reduceEqDiff, decide_true, decide_false, Bool.not_true, Bool.not_false, Bool.and_true, Bool.true_and, Bool.and_false, Bool.false_and, Bool.or_true, Bool.true_or, Bool.or_false, Bool.false_or, Bool.not_not]
  refine s_levels_Levels_Room (b := d) (s := ⟨96, ⟨cc, ff⟩, []⟩) ?_
  try simp [↓RG, RP]
  exact hK.sub

def nil1 : Lv := ⟨[], []⟩
def deep (j : Nat) : LvS := ⟨5, nil1, List.replicate j nil1⟩
theorem deep_open {j : Nat} : lOpen (deep j) = if 6 ≤ j + 1 then (deep j, 9) else (deep (j + 1), 0) := by
  unfold lOpen deep
  simp only [List.length_replicate]
  split
  · rfl
  · rfl
theorem deep_keep {j : Nat} : lKeep (deep (j + 1)) = (deep j, 0) := rfl
theorem deep_drop {j : Nat} : lDrop (deep (j + 1)) = (deep j, 0) := rfl
theorem deep_frees {j : Nat} : (deep j).frees = [] := by
  unfold deep LvS.frees
  simp [freesR, nil1]
theorem deep_cells : (deep 0).cells = [] := rfl

theorem bit01 (x : Int) : IntKind.wrap .u8 (BitVec.ofInt IntKind.u8.bits x &&& BitVec.ofInt IntKind.u8.bits 1).toNat = 0 ∨ IntKind.wrap .u8 (BitVec.ofInt IntKind.u8.bits x &&& BitVec.ofInt IntKind.u8.bits 1).toNat = 1 := by
  have h : (BitVec.ofInt 8 x &&& BitVec.ofInt 8 1).toNat = (BitVec.ofInt 8 x).toNat % 2 := by
    rw [BitVec.toNat_and, show (BitVec.ofInt 8 1).toNat = 1 from rfl, Nat.and_one_is_mod]
  show IntKind.wrap .u8 (((BitVec.ofInt 8 x &&& BitVec.ofInt 8 1).toNat : Nat) : Int) = 0 ∨ IntKind.wrap .u8 (((BitVec.ofInt 8 x &&& BitVec.ofInt 8 1).toNat : Nat) : Int) = 1
  rw [h]
  rcases Nat.mod_two_eq_zero_or_one (BitVec.ofInt 8 x).toNat with e | e <;> rw [e]
  · exact .inl rfl
  · exact .inr rfl

theorem s_law9_LevelsDeep {n m : Int} (hn0 : inK .u8 n) (hn1 : inK .u8 m) (hK : G w0 L (K (.bool true))) : G w0 L (CP Try.prog Fn.law9_LevelsDeep [.int .u8 n, .int .u8 m] K) := by
  have h0 := inK_u8 hn0
  have h1 := inK_u8 hn1
  refine C_law9_LevelsDeep ?_
  unfold S_law9_LevelsDeep
  refine s_law9_LevelsRuns ?_
  try simp (maxSteps := 2000000) only [fuse_and, fuse_or, fuse_step, fuse_pair, fuse_in, andP_true]
  try simp (maxSteps := 2000000) only [↓RG, RP, true_and, and_true, beq_true, beq_false, Bool.true_beq, Bool.false_beq, BEq.rfl, Int.reduceEq, Int.reduceLT, Int.reduceLE, Nat.reduceEqDiff, decide_true, decide_false, Bool.not_true, Bool.not_false, Bool.and_true, Bool.true_and, Bool.and_false, Bool.false_and, Bool.or_true, Bool.true_or, Bool.or_false, Bool.false_or, Bool.not_not]
  refine s_levels_New fun b => ?_
  rw [show held 5 0 96 = 5 from rfl]
  obtain ⟨k, hk, hk9⟩ : ∃ k : Nat, IntKind.wrap .i64 (n.tmod 9) = (k : Int) ∧ k < 9 := by
    rw [Int.tmod_eq_emod_of_nonneg h0.1, wi64 (by omega) (by omega)]
    exact ⟨(n % 9).toNat, by omega, by omega⟩
  try simp (maxSteps := 2000000) only [↓RG, RP, true_and, and_true, beq_true, beq_false, Bool.true_beq, Bool.false_beq, BEq.rfl, Int.reduceEq, Int.reduceLT, Int.reduceLE, Nat.reduceEqDiff, decide_true, decide_false, Bool.not_true, Bool.not_false, Bool.and_true, Bool.true_and, Bool.and_false, Bool.false_and, Bool.or_true, Bool.true_or, Bool.or_false, Bool.false_or, Bool.not_not, hk]
  refine G.loop1 (fun i : Nat => i64 (i + 1 : Nat)) (fun i => ob LevelsR b (deep (min i 5)) :: L) (fun i => i ≤ k) (fun i => k - i) 0 rfl rfl (by simp) ?_
  intro i hi J hJ
  try simp (maxSteps := 2000000) only [↓RG, RP, true_and, and_true, beq_true, beq_false, Bool.true_beq, Bool.false_beq, BEq.rfl, Int.reduceEq, Int.reduceLT, Int.reduceLE, Nat.reduceEqDiff, decide_true, decide_false, Bool.not_true, Bool.not_false, Bool.and_true, Bool.true_and, Bool.and_false, Bool.false_and, Bool.or_true, Bool.true_or, Bool.or_false, Bool.false_or, Bool.not_not]
  refine G.cond (fun h => ?_) (fun h => ?_)
  · have hi2 : i < k := by simp at h; omega
    have hJ := hJ (i + 1) hi2 (by omega)
    refine s_levels_Levels_Open (s := deep (min i 5)) ?_
    rw [deep_open]
    by_cases h5 : i < 5
    · rw [if_neg (by omega)]
      have e1 : min i 5 + 1 = min (i + 1) 5 := by omega
      rw [e1]
      have e2 : ((i + 1 : Nat) : Int) < 6 := by omega
      have e3 : (deep (min (i + 1) 5)).up.length + 1 = i + 2 := by simp [deep]; omega
      repeat' (first | (with_reducible refine G.joini0 ?_) | (with_reducible refine G.joini1 ?_) | (with_reducible refine G.drew ?_) | (simp (maxSteps := 2000000) only [↓RG, RP, true_and, and_true, beq_true, beq_false, Bool.true_beq, Bool.false_beq, BEq.rfl, Int.reduceEq, Int.reduceLT, Int.reduceLE, Nat.reduceEqDiff, decide_true, decide_false, Bool.not_true, Bool.not_false, Bool.and_true, Bool.true_and, Bool.and_false, Bool.false_and, Bool.or_true, Bool.true_or, Bool.or_false, Bool.false_or, Bool.not_not, e2]))
      refine s_levels_Levels_Depth (s := deep (min (i + 1) 5)) ?_
      rw [e3]
      try simp (maxSteps := 2000000) only [↓RG, RP, true_and, and_true, beq_true, beq_false, Bool.true_beq, Bool.false_beq, BEq.rfl, Int.reduceEq, Int.reduceLT, Int.reduceLE, Nat.reduceEqDiff, decide_true, decide_false, Bool.not_true, Bool.not_false, Bool.and_true, Bool.true_and, Bool.and_false, Bool.false_and, Bool.or_true, Bool.true_or, Bool.or_false, Bool.false_or, Bool.not_not]
      rw [wsucc (by omega)]
      have e4 : ¬ (6 : Int) < ((i + 1 + 1 : Nat) : Int) := by omega
      have e5 : (if (6 : Int) < ((i + 1 + 1 : Nat) : Int) then (6 : Int) else ((i + 1 + 1 : Nat) : Int)) = ((i + 2 : Nat) : Int) := by rw [if_neg e4]
      rw [e5]
      try simp (maxSteps := 2000000) only [↓RG, RP, true_and, and_true, beq_true, beq_false, Bool.true_beq, Bool.false_beq, BEq.rfl, Int.reduceEq, Int.reduceLT, Int.reduceLE, Nat.reduceEqDiff, decide_true, decide_false, Bool.not_true, Bool.not_false, Bool.and_true, Bool.true_and, Bool.and_false, Bool.false_and, Bool.or_true, Bool.true_or, Bool.or_false, Bool.false_or, Bool.not_not]
      exact hJ
    · rw [if_pos (by omega)]
      have e1 : min i 5 = min (i + 1) 5 := by omega
      rw [e1]
      have e2 : ¬ ((i + 1 : Nat) : Int) < 6 := by omega
      have e3 : (deep (min (i + 1) 5)).up.length + 1 = 6 := by simp [deep]; omega
      repeat' (first | (with_reducible refine G.joini0 ?_) | (with_reducible refine G.joini1 ?_) | (with_reducible refine G.drew ?_) | (simp (maxSteps := 2000000) only [↓RG, RP, true_and, and_true, beq_true, beq_false, Bool.true_beq, Bool.false_beq, BEq.rfl, Int.reduceEq, Int.reduceLT, Int.reduceLE, Nat.reduceEqDiff, decide_true, decide_false, Bool.not_true, Bool.not_false, Bool.and_true, Bool.true_and, Bool.and_false, Bool.false_and, Bool.or_true, Bool.true_or, Bool.or_false, Bool.false_or, Bool.not_not, e2]))
      refine s_levels_Levels_Depth (s := deep (min (i + 1) 5)) ?_
      rw [e3]
      try simp (maxSteps := 2000000) only [↓RG, RP, true_and, and_true, beq_true, beq_false, Bool.true_beq, Bool.false_beq, BEq.rfl, Int.reduceEq, Int.reduceLT, Int.reduceLE, Nat.reduceEqDiff, decide_true, decide_false, Bool.not_true, Bool.not_false, Bool.and_true, Bool.true_and, Bool.and_false, Bool.false_and, Bool.or_true, Bool.true_or, Bool.or_false, Bool.false_or, Bool.not_not]
      rw [wsucc (by omega)]
      have e5 : (if (6 : Int) < ((i + 1 + 1 : Nat) : Int) then (6 : Int) else ((i + 1 + 1 : Nat) : Int)) = ((6 : Nat) : Int) := by split <;> omega
      rw [e5]
      try simp (maxSteps := 2000000) only [↓RG, RP, true_and, and_true, beq_true, beq_false, Bool.true_beq, Bool.false_beq, BEq.rfl, Int.reduceEq, Int.reduceLT, Int.reduceLE, Nat.reduceEqDiff, decide_true, decide_false, Bool.not_true, Bool.not_false, Bool.and_true, Bool.true_and, Bool.and_false, Bool.false_and, Bool.or_true, Bool.true_or, Bool.or_false, Bool.false_or, Bool.not_not]
      exact hJ
  · refine s_levels_Levels_Depth (s := deep (min i 5)) ?_
    rw [show (deep (min i 5)).up.length + 1 = min i 5 + 1 by simp [deep]]
    have hj0 : min i 5 ≤ 5 := by omega
    generalize min i 5 = j0 at hj0
    refine G.loop1 (fun j : Nat => i64 (j + 1 : Nat)) (fun j => ob LevelsR b (deep j) :: L) (fun j => j ≤ 5) (fun j => j) j0 rfl rfl hj0 ?_
    intro j hj J2 hJ2
    cases j with
    | zero =>
      have e1 : ¬ (1 : Int) < ((0 + 1 : Nat) : Int) := by omega
      try simp (maxSteps := 2000000) only [↓RG, RP, true_and, and_true, beq_true, beq_false, Bool.true_beq, Bool.false_beq, BEq.rfl, Int.reduceEq, Int.reduceLT, Int.reduceLE, Nat.reduceEqDiff, decide_true, decide_false, Bool.not_true, Bool.not_false, Bool.and_true, Bool.true_and, Bool.and_false, Bool.false_and, Bool.or_true, Bool.true_or, Bool.or_false, Bool.false_or, Bool.not_not, e1]
      refine s_levels_Levels_Keep (s := deep 0) (by rw [deep_frees]; simp) ?_
      rw [show lKeep (deep 0) = (deep 0, 10) from rfl]
      try simp (maxSteps := 2000000) only [↓RG, RP, true_and, and_true, beq_true, beq_false, Bool.true_beq, Bool.false_beq, BEq.rfl, Int.reduceEq, Int.reduceLT, Int.reduceLE, Nat.reduceEqDiff, decide_true, decide_false, Bool.not_true, Bool.not_false, Bool.and_true, Bool.true_and, Bool.and_false, Bool.false_and, Bool.or_true, Bool.true_or, Bool.or_false, Bool.false_or, Bool.not_not]
      refine s_levels_Levels_Drop (s := deep 0) ?_
      rw [show lDrop (deep 0) = (deep 0, 10) from rfl]
      try simp (maxSteps := 2000000) only [↓RG, RP, true_and, and_true, beq_true, beq_false, Bool.true_beq, Bool.false_beq, BEq.rfl, Int.reduceEq, Int.reduceLT, Int.reduceLE, Nat.reduceEqDiff, decide_true, decide_false, Bool.not_true, Bool.not_false, Bool.and_true, Bool.true_and, Bool.and_false, Bool.false_and, Bool.or_true, Bool.true_or, Bool.or_false, Bool.false_or, Bool.not_not]
      refine s_levels_Levels_Cells (s := deep 0) fun u hu => ?_
      rw [deep_cells]
      try simp [↓RG, RP]
      exact hK.sub
    | succ j =>
      have e1 : (1 : Int) < ((j + 1 + 1 : Nat) : Int) := by omega
      have e2 : IntKind.wrap .u64 ((j + 1 + 1 : Nat) : Int) = ((j + 1 + 1 : Nat) : Int) := wu64 (by omega) (by omega)
      have e3 : IntKind.wrap .i64 (((j + 1 + 1 : Nat) : Int) - 1) = ((j + 1 : Nat) : Int) := by rw [wi64 (by omega) (by omega)]; omega
      have e4 : (deep j).up.length + 1 = j + 1 := by simp [deep]
      have hJ2 := hJ2 j (by omega) (by omega)
      rcases bit01 (m.fdiv (2 ^ min ((j + 1 + 1 : Nat) : Int).toNat IntKind.u8.bits)) with hb | hb
      · try simp (maxSteps := 2000000) only [↓RG, RP, true_and, and_true, beq_true, beq_false, Bool.true_beq, Bool.false_beq, BEq.rfl, Int.reduceEq, Int.reduceLT, Int.reduceLE, Nat.reduceEqDiff, decide_true, decide_false, Bool.not_true, Bool.not_false, Bool.and_true, Bool.true_and, Bool.and_false, Bool.false_and, Bool.or_true, Bool.true_or, Bool.or_false, Bool.false_or, Bool.not_not, e1, e2, hb]
        refine s_levels_Levels_Drop (s := deep (j + 1)) ?_
        rw [deep_drop]
        try simp (maxSteps := 2000000) only [↓RG, RP, true_and, and_true, beq_true, beq_false, Bool.true_beq, Bool.false_beq, BEq.rfl, Int.reduceEq, Int.reduceLT, Int.reduceLE, Nat.reduceEqDiff, decide_true, decide_false, Bool.not_true, Bool.not_false, Bool.and_true, Bool.true_and, Bool.and_false, Bool.false_and, Bool.or_true, Bool.true_or, Bool.or_false, Bool.false_or, Bool.not_not]
        refine s_levels_Levels_Depth (s := deep j) ?_
        rw [e4]
        try simp (maxSteps := 2000000) only [↓RG, RP, true_and, and_true, beq_true, beq_false, Bool.true_beq, Bool.false_beq, BEq.rfl, Int.reduceEq, Int.reduceLT, Int.reduceLE, Nat.reduceEqDiff, decide_true, decide_false, Bool.not_true, Bool.not_false, Bool.and_true, Bool.true_and, Bool.and_false, Bool.false_and, Bool.or_true, Bool.true_or, Bool.or_false, Bool.false_or, Bool.not_not, e3]
        exact hJ2
      · try simp (maxSteps := 2000000) only [↓RG, RP, true_and, and_true, beq_true, beq_false, Bool.true_beq, Bool.false_beq, BEq.rfl, Int.reduceEq, Int.reduceLT, Int.reduceLE, Nat.reduceEqDiff, decide_true, decide_false, Bool.not_true, Bool.not_false, Bool.and_true, Bool.true_and, Bool.and_false, Bool.false_and, Bool.or_true, Bool.true_or, Bool.or_false, Bool.false_or, Bool.not_not, e1, e2, hb]
        refine s_levels_Levels_Keep (s := deep (j + 1)) (by rw [deep_frees]; simp) ?_
        rw [deep_keep]
        try simp (maxSteps := 2000000) only [↓RG, RP, true_and, and_true, beq_true, beq_false, Bool.true_beq, Bool.false_beq, BEq.rfl, Int.reduceEq, Int.reduceLT, Int.reduceLE, Nat.reduceEqDiff, decide_true, decide_false, Bool.not_true, Bool.not_false, Bool.and_true, Bool.true_and, Bool.and_false, Bool.false_and, Bool.or_true, Bool.true_or, Bool.or_false, Bool.false_or, Bool.not_not, e2, hb]
        refine s_levels_Levels_Depth (s := deep j) ?_
        rw [e4]
        try simp (maxSteps := 2000000) only [↓RG, RP, true_and, and_true, beq_true, beq_false, Bool.true_beq, Bool.false_beq, BEq.rfl, Int.reduceEq, Int.reduceLT, Int.reduceLE, Nat.reduceEqDiff, decide_true, decide_false, Bool.not_true, Bool.not_false, Bool.and_true, Bool.true_and, Bool.and_false, Bool.false_and, Bool.or_true, Bool.true_or, Bool.or_false, Bool.false_or, Bool.not_not, e3]
        exact hJ2

/-! ### so much room -/
def placesR (l : List Lv) : List Int := l.flatMap fun q => q.c.map (·.place)
/-- behind j puts at the places 1, 2, .. -/
structure InvR (n j u : Nat) (z : LvS) : Prop where
  most : z.most = n
  total : totalC (z.r :: z.up) = min j n
  up : z.up.length ≤ u
  places : ∀ a ∈ placesR (z.r :: z.up), 1 ≤ a ∧ a ≤ (min j n : Nat)
  inmost : ∀ a : Int, 5 ≤ a → a ≤ (min j n : Nat) → (idxC z.r.c a).isSome = true
  nodup : (placesR (z.r :: z.up)).Nodup

theorem placesR_cons {r : Lv} {l : List Lv} : placesR (r :: l) = r.c.map (·.place) ++ placesR l := rfl
theorem InvR.room {n j u : Nat} {z : LvS} (h : InvR n j u z) : z.room = ((n - min j n : Nat) : Int) := by
  unfold LvS.room
  rw [h.total, h.most]; omega
theorem InvR.opened {n j u : Nat} {z : LvS} (h : InvR n j u z) (hj : j < 5) : InvR n j (u + 1) ⟨z.most, ⟨[], []⟩, z.r :: z.up⟩ :=
  ⟨h.most, by rw [totalC_cons]; simpa using h.total, by have := h.up; simp; omega, by rw [placesR_cons]; simpa using h.places, fun a h1 h2 => by omega, by rw [placesR_cons]; simpa using h.nodup⟩
theorem InvR.more {n j u u' : Nat} {z : LvS} (h : InvR n j u z) (hu : u ≤ u') : InvR n j u' z := ⟨h.most, h.total, Nat.le_trans h.up hu, h.places, h.inmost, h.nodup⟩
theorem InvR.free {n j u : Nat} {z : LvS} (h : InvR n j u z) {a : Int} (ha : (min j n : Nat) < a) {q : Lv} (hq : q ∈ z.r :: z.up) : idxC q.c a = none := by
  cases e : idxC q.c a with
  | none => rfl
  | some k =>
    obtain ⟨h1, h2, _⟩ := idxC_some e
    have := h.places a (List.mem_flatMap.2 ⟨q, hq, List.mem_map.2 ⟨_, List.getElem_mem h1, h2⟩⟩)
    omega

theorem inv_put {n j u : Nat} {z : LvS} (h : InvR n j u z) (hn : n ≤ 29) : (j + 1 ≤ n ∧ lErr z ((j + 1 : Nat) : Int) = 0 ∧ InvR n (j + 1) u (z.put ((j + 1 : Nat) : Int) 7)) ∨ (¬ j + 1 ≤ n ∧ (j ≤ 100 → lErr z ((j + 1 : Nat) : Int) = 5) ∧ InvR n (j + 1) u z) := by
  have hf : idxC z.r.c ((j + 1 : Nat) : Int) = none := h.free (by omega) (by simp)
  by_cases hj : j + 1 ≤ n
  · left
    have hr : ¬ z.room = 0 := by rw [h.room]; omega
    have e := (idxC_none hf).1 7
    refine ⟨hj, ?_, h.most, ?_, h.up, ?_, fun a h1 h2 => ?_, ?_⟩
    · unfold lErr
      rw [if_pos (okAt_iff.2 ⟨by omega, by omega⟩), hf, if_neg (by simp), if_neg hr]
    · have := h.total
      rw [totalC_cons] at this
      show totalC (⟨putC z.r.c _ 7, z.r.f⟩ :: z.up) = _
      rw [totalC_cons]
      simp only [e, List.length_append, List.length_singleton]
      omega
    · show ∀ a ∈ placesR (⟨putC z.r.c _ 7, z.r.f⟩ :: z.up), _
      intro a ha
      rw [placesR_cons] at ha
      have hp := h.places a
      rw [placesR_cons] at hp
      simp only [e, List.map_append, List.map_cons, List.map_nil, List.mem_append, List.mem_singleton] at ha hp
      rcases ha with (ha | ha) | ha
      · have := hp (.inl ha); omega
      · omega
      · have := hp (.inr ha); omega
    · show (idxC (putC z.r.c _ 7) a).isSome = true
      rw [idxC_isSome, lookC_put]
      split
      · rfl
      · rw [← idxC_isSome]; exact h.inmost a h1 (by omega)
    · show (placesR (⟨putC z.r.c _ 7, z.r.f⟩ :: z.up)).Nodup
      have hd := h.nodup
      rw [placesR_cons] at hd ⊢
      simp only [e, List.map_append, List.map_cons, List.map_nil]
      have hp := h.places
      rw [placesR_cons] at hp
      rw [List.append_assoc, List.nodup_append] at *
      refine ⟨hd.1, ?_, fun a ha b hb => ?_⟩
      · rw [List.singleton_append, List.nodup_cons]
        refine ⟨fun hm => ?_, hd.2.1⟩
        have := hp _ (List.mem_append_right _ hm); omega
      · rcases List.mem_append.1 hb with hb | hb
        · rw [List.mem_singleton.1 hb]
          have := hp a (List.mem_append_left _ ha); omega
        · exact hd.2.2 a ha b hb
  · right
    have hr : z.room = 0 := by rw [h.room]; omega
    have hm : min (j + 1) n = min j n := by omega
    refine ⟨hj, fun h100 => ?_, h.most, by rw [hm]; exact h.total, h.up, by rw [hm]; exact h.places, by rw [hm]; exact h.inmost, h.nodup⟩
    unfold lErr
    rw [if_pos (okAt_iff.2 ⟨by omega, by omega⟩), hf, if_neg (by simp), if_pos hr]

theorem cells_len : ∀ {l : List Lv} {out : List TCell}, (out.map (·.place) ++ placesR l).Nodup → (l.foldl (fun out q => putsC q.c out) out).length = out.length + totalC l
  | [], out, _ => by simp [totalC]
  | r :: l, out, h => by
    rw [placesR_cons] at h
    have h' : ((r.c ++ out).map (·.place)).Nodup := by
      rw [← List.append_assoc] at h
      rw [List.map_append]
      exact List.perm_append_comm.nodup_iff.1 (List.nodup_append.1 h).1
    rw [List.foldl_cons, putsC_new h', cells_len, List.length_append, totalC_cons]
    · omega
    · rw [List.map_append]
      refine (List.Perm.nodup_iff ?_).1 h
      rw [← List.append_assoc]
      exact List.perm_append_comm.append_right _

theorem s_law9_LevelsRoom {n0 m : Int} (hn0 : inK .u8 n0) (hn1 : inK .u16 m) (hK : G w0 L (K (.bool true))) : G w0 L (CP Try.prog Fn.law9_LevelsRoom [.int .u8 n0, .int .u16 m] K) := by
  have h0 := inK_u8 hn0
  have h1 := inK_u16 hn1
  refine C_law9_LevelsRoom ?_
  unfold S_law9_LevelsRoom
  refine s_law9_LevelsRuns ?_
  try simp (maxSteps := 2000000) only [fuse_and, fuse_or, fuse_step, fuse_pair, fuse_in, andP_true]
  obtain ⟨n, hn, hjn⟩ : ∃ n : Nat, IntKind.wrap .i64 (n0.tmod 30) = (n : Int) ∧ n ≤ 29 := by
    rw [Int.tmod_eq_emod_of_nonneg h0.1, wi64 (by omega) (by omega)]
    exact ⟨(n0 % 30).toNat, by omega, by omega⟩
  try simp (maxSteps := 2000000) only [↓RG, RP, true_and, and_true, beq_true, beq_false, Bool.true_beq, Bool.false_beq, BEq.rfl, Int.reduceEq, Int.reduceLT, Int.reduceLE, Nat.reduceEqDiff, decide_true, decide_false, Bool.not_true, Bool.not_false, Bool.and_true, Bool.true_and, Bool.and_false, Bool.false_and, Bool.or_true, Bool.true_or, Bool.or_false, Bool.false_or, Bool.not_not, hn]
  refine s_levels_New fun b => ?_
  have hh : held (n : Int) 0 96 = n := by unfold held; split <;> (try split) <;> omega
  rw [hh]
  try simp (maxSteps := 2000000) only [↓RG, RP, true_and, and_true, beq_true, beq_false, Bool.true_beq, Bool.false_beq, BEq.rfl, Int.reduceEq, Int.reduceLT, Int.reduceLE, Nat.reduceEqDiff, decide_true, decide_false, Bool.not_true, Bool.not_false, Bool.and_true, Bool.true_and, Bool.and_false, Bool.false_and, Bool.or_true, Bool.true_or, Bool.or_false, Bool.false_or, Bool.not_not]
  refine G.loop1 (σ := Nat × LvS) (fun z => i64 (z.1 + 1 : Nat)) (fun z => ob LevelsR b z.2 :: L) (fun z => z.1 ≤ n + 2 ∧ InvR n z.1 (min z.1 5) z.2) (fun z => n + 2 - z.1) (0, ⟨n, ⟨[], []⟩, []⟩) rfl rfl ⟨by simp, rfl, by simp [totalC], by simp, by simp [placesR], fun a h1 h2 => by simp only [Nat.zero_min] at h2; omega, by simp [placesR]⟩ ?_
  rintro ⟨j, z⟩ ⟨hj, hi⟩ J hJ
  simp only at hj hi hJ ⊢
  have w2 : IntKind.wrap .i64 ((n : Int) + 2) = ((n + 2 : Nat) : Int) := by rw [wi64 (by omega) (by omega)]; omega
  try simp (maxSteps := 2000000) only [↓RG, RP, true_and, and_true, beq_true, beq_false, Bool.true_beq, Bool.false_beq, BEq.rfl, Int.reduceEq, Int.reduceLT, Int.reduceLE, Nat.reduceEqDiff, decide_true, decide_false, Bool.not_true, Bool.not_false, Bool.and_true, Bool.true_and, Bool.and_false, Bool.false_and, Bool.or_true, Bool.true_or, Bool.or_false, Bool.false_or, Bool.not_not, w2]
  refine G.cond (fun h => ?_) (fun h => ?_)
  · have hj2 : j < n + 2 := by simp at h; omega
    have e7 : (if (0 : Int) < IntKind.wrap .i64 ((n : Int) - ((j + 1 : Nat) : Int)) then IntKind.wrap .i64 ((n : Int) - ((j + 1 : Nat) : Int)) else 0) = ((n - min (j + 1) n : Nat) : Int) := by
      rw [wi64 (by omega) (by omega)]; split <;> omega
    by_cases h5 : ((j + 1 : Nat) : Int) ≤ 5
    · have w3 : IntKind.wrap .u64 ((j + 1 : Nat) : Int) = ((j + 1 : Nat) : Int) := wu64 (by omega) (by omega)
      by_cases hb : IntKind.wrap .u16 (BitVec.ofInt IntKind.u16.bits (m.fdiv (2 ^ min ((j + 1 : Nat) : Int).toNat IntKind.u16.bits)) &&& BitVec.ofInt IntKind.u16.bits 1).toNat = 1
      · try simp (maxSteps := 2000000) only [↓RG, RP, true_and, and_true, beq_true, beq_false, Bool.true_beq, Bool.false_beq, BEq.rfl, Int.reduceEq, Int.reduceLT, Int.reduceLE, Nat.reduceEqDiff, decide_true, decide_false, Bool.not_true, Bool.not_false, Bool.and_true, Bool.true_and, Bool.and_false, Bool.false_and, Bool.or_true, Bool.true_or, Bool.or_false, Bool.false_or, Bool.not_not, h5, w3, hb]
        have hi1 := (hi.opened (by omega)).more (u' := min (j + 1) 5) (by omega)
        refine s_levels_Levels_Open (s := z) ?_
        have ho : lOpen z = (⟨z.most, ⟨[], []⟩, z.r :: z.up⟩, 0) := by
          unfold lOpen; rw [if_neg]; have := hi.up; omega
        rw [ho]
        repeat' (first | (with_reducible refine G.joini0 ?_) | (with_reducible refine G.joini1 ?_) | (with_reducible refine G.drew ?_) | (simp (maxSteps := 2000000) only [↓RG, RP, true_and, and_true, beq_true, beq_false, Bool.true_beq, Bool.false_beq, BEq.rfl, Int.reduceEq, Int.reduceLT, Int.reduceLE, Nat.reduceEqDiff, decide_true, decide_false, Bool.not_true, Bool.not_false, Bool.and_true, Bool.true_and, Bool.and_false, Bool.false_and, Bool.or_true, Bool.true_or, Bool.or_false, Bool.false_or, Bool.not_not]))
        rcases inv_put hi1 hjn with ⟨hin, hq, hi2⟩ | ⟨hin, hq, hi2⟩
        · have e6 : ((j + 1 : Nat) : Int) ≤ (n : Int) := by omega
          refine s_levels_Levels_Put (s := ⟨z.most, ⟨[], []⟩, z.r :: z.up⟩) ?_
          rw [hq, if_pos rfl]
          try simp (maxSteps := 2000000) only [↓RG, RP, true_and, and_true, beq_true, beq_false, Bool.true_beq, Bool.false_beq, BEq.rfl, Int.reduceEq, Int.reduceLT, Int.reduceLE, Nat.reduceEqDiff, decide_true, decide_false, Bool.not_true, Bool.not_false, Bool.and_true, Bool.true_and, Bool.and_false, Bool.false_and, Bool.or_true, Bool.true_or, Bool.or_false, Bool.false_or, Bool.not_not, e6]
          refine s_levels_Levels_Room (s := LvS.put ⟨z.most, ⟨[], []⟩, z.r :: z.up⟩ ((j + 1 : Nat) : Int) 7) ?_
          rw [hi2.room]
          try simp (maxSteps := 2000000) only [↓RG, RP, true_and, and_true, beq_true, beq_false, Bool.true_beq, Bool.false_beq, BEq.rfl, Int.reduceEq, Int.reduceLT, Int.reduceLE, Nat.reduceEqDiff, decide_true, decide_false, Bool.not_true, Bool.not_false, Bool.and_true, Bool.true_and, Bool.and_false, Bool.false_and, Bool.or_true, Bool.true_or, Bool.or_false, Bool.false_or, Bool.not_not, e7]
          rw [wsucc (by omega)]
          exact hJ (j + 1, LvS.put ⟨z.most, ⟨[], []⟩, z.r :: z.up⟩ ((j + 1 : Nat) : Int) 7) ⟨by omega, hi2⟩ (by simp; omega)
        · have e6 : ¬ ((j + 1 : Nat) : Int) ≤ (n : Int) := by omega
          refine s_levels_Levels_Put (s := ⟨z.most, ⟨[], []⟩, z.r :: z.up⟩) ?_
          rw [hq (by omega), if_neg (by decide)]
          try simp (maxSteps := 2000000) only [↓RG, RP, true_and, and_true, beq_true, beq_false, Bool.true_beq, Bool.false_beq, BEq.rfl, Int.reduceEq, Int.reduceLT, Int.reduceLE, Nat.reduceEqDiff, decide_true, decide_false, Bool.not_true, Bool.not_false, Bool.and_true, Bool.true_and, Bool.and_false, Bool.false_and, Bool.or_true, Bool.true_or, Bool.or_false, Bool.false_or, Bool.not_not, e6]
          refine s_levels_Levels_Room (s := ⟨z.most, ⟨[], []⟩, z.r :: z.up⟩) ?_
          rw [hi2.room]
          try simp (maxSteps := 2000000) only [↓RG, RP, true_and, and_true, beq_true, beq_false, Bool.true_beq, Bool.false_beq, BEq.rfl, Int.reduceEq, Int.reduceLT, Int.reduceLE, Nat.reduceEqDiff, decide_true, decide_false, Bool.not_true, Bool.not_false, Bool.and_true, Bool.true_and, Bool.and_false, Bool.false_and, Bool.or_true, Bool.true_or, Bool.or_false, Bool.false_or, Bool.not_not, e7]
          rw [wsucc (by omega)]
          exact hJ (j + 1, ⟨z.most, ⟨[], []⟩, z.r :: z.up⟩) ⟨by omega, hi2⟩ (by simp; omega)
      · try simp (maxSteps := 2000000) only [↓RG, RP, true_and, and_true, beq_true, beq_false, Bool.true_beq, Bool.false_beq, BEq.rfl, Int.reduceEq, Int.reduceLT, Int.reduceLE, Nat.reduceEqDiff, decide_true, decide_false, Bool.not_true, Bool.not_false, Bool.and_true, Bool.true_and, Bool.and_false, Bool.false_and, Bool.or_true, Bool.true_or, Bool.or_false, Bool.false_or, Bool.not_not, h5, w3, hb]
        have hi1 := hi.more (u' := min (j + 1) 5) (by omega)
        rcases inv_put hi1 hjn with ⟨hin, hq, hi2⟩ | ⟨hin, hq, hi2⟩
        · have e6 : ((j + 1 : Nat) : Int) ≤ (n : Int) := by omega
          refine s_levels_Levels_Put (s := z) ?_
          rw [hq, if_pos rfl]
          try simp (maxSteps := 2000000) only [↓RG, RP, true_and, and_true, beq_true, beq_false, Bool.true_beq, Bool.false_beq, BEq.rfl, Int.reduceEq, Int.reduceLT, Int.reduceLE, Nat.reduceEqDiff, decide_true, decide_false, Bool.not_true, Bool.not_false, Bool.and_true, Bool.true_and, Bool.and_false, Bool.false_and, Bool.or_true, Bool.true_or, Bool.or_false, Bool.false_or, Bool.not_not, e6]
          refine s_levels_Levels_Room (s := LvS.put z ((j + 1 : Nat) : Int) 7) ?_
          rw [hi2.room]
          try simp (maxSteps := 2000000) only [↓RG, RP, true_and, and_true, beq_true, beq_false, Bool.true_beq, Bool.false_beq, BEq.rfl, Int.reduceEq, Int.reduceLT, Int.reduceLE, Nat.reduceEqDiff, decide_true, decide_false, Bool.not_true, Bool.not_false, Bool.and_true, Bool.true_and, Bool.and_false, Bool.false_and, Bool.or_true, Bool.true_or, Bool.or_false, Bool.false_or, Bool.not_not, e7]
          rw [wsucc (by omega)]
          exact hJ (j + 1, LvS.put z ((j + 1 : Nat) : Int) 7) ⟨by omega, hi2⟩ (by simp; omega)
        · have e6 : ¬ ((j + 1 : Nat) : Int) ≤ (n : Int) := by omega
          refine s_levels_Levels_Put (s := z) ?_
          rw [hq (by omega), if_neg (by decide)]
          try simp (maxSteps := 2000000) only [↓RG, RP, true_and, and_true, beq_true, beq_false, Bool.true_beq, Bool.false_beq, BEq.rfl, Int.reduceEq, Int.reduceLT, Int.reduceLE, Nat.reduceEqDiff, decide_true, decide_false, Bool.not_true, Bool.not_false, Bool.and_true, Bool.true_and, Bool.and_false, Bool.false_and, Bool.or_true, Bool.true_or, Bool.or_false, Bool.false_or, Bool.not_not, e6]
          refine s_levels_Levels_Room (s := z) ?_
          rw [hi2.room]
          try simp (maxSteps := 2000000) only [↓RG, RP, true_and, and_true, beq_true, beq_false, Bool.true_beq, Bool.false_beq, BEq.rfl, Int.reduceEq, Int.reduceLT, Int.reduceLE, Nat.reduceEqDiff, decide_true, decide_false, Bool.not_true, Bool.not_false, Bool.and_true, Bool.true_and, Bool.and_false, Bool.false_and, Bool.or_true, Bool.true_or, Bool.or_false, Bool.false_or, Bool.not_not, e7]
          rw [wsucc (by omega)]
          exact hJ (j + 1, z) ⟨by omega, hi2⟩ (by simp; omega)
    · try simp (maxSteps := 2000000) only [↓RG, RP, true_and, and_true, beq_true, beq_false, Bool.true_beq, Bool.false_beq, BEq.rfl, Int.reduceEq, Int.reduceLT, Int.reduceLE, Nat.reduceEqDiff, decide_true, decide_false, Bool.not_true, Bool.not_false, Bool.and_true, Bool.true_and, Bool.and_false, Bool.false_and, Bool.or_true, Bool.true_or, Bool.or_false, Bool.false_or, Bool.not_not, h5]
      have hi1 := hi.more (u' := min (j + 1) 5) (by omega)
      rcases inv_put hi1 hjn with ⟨hin, hq, hi2⟩ | ⟨hin, hq, hi2⟩
      · have e6 : ((j + 1 : Nat) : Int) ≤ (n : Int) := by omega
        refine s_levels_Levels_Put (s := z) ?_
        rw [hq, if_pos rfl]
        try simp (maxSteps := 2000000) only [↓RG, RP, true_and, and_true, beq_true, beq_false, Bool.true_beq, Bool.false_beq, BEq.rfl, Int.reduceEq, Int.reduceLT, Int.reduceLE, Nat.reduceEqDiff, decide_true, decide_false, Bool.not_true, Bool.not_false, Bool.and_true, Bool.true_and, Bool.and_false, Bool.false_and, Bool.or_true, Bool.true_or, Bool.or_false, Bool.false_or, Bool.not_not, e6]
        refine s_levels_Levels_Room (s := LvS.put z ((j + 1 : Nat) : Int) 7) ?_
        rw [hi2.room]
        try simp (maxSteps := 2000000) only [↓RG, RP, true_and, and_true, beq_true, beq_false, Bool.true_beq, Bool.false_beq, BEq.rfl, Int.reduceEq, Int.reduceLT, Int.reduceLE, Nat.reduceEqDiff, decide_true, decide_false, Bool.not_true, Bool.not_false, Bool.and_true, Bool.true_and, Bool.and_false, Bool.false_and, Bool.or_true, Bool.true_or, Bool.or_false, Bool.false_or, Bool.not_not, e7]
        rw [wsucc (by omega)]
        exact hJ (j + 1, LvS.put z ((j + 1 : Nat) : Int) 7) ⟨by omega, hi2⟩ (by simp; omega)
      · have e6 : ¬ ((j + 1 : Nat) : Int) ≤ (n : Int) := by omega
        refine s_levels_Levels_Put (s := z) ?_
        rw [hq (by omega), if_neg (by decide)]
        try simp (maxSteps := 2000000) only [↓RG, RP, true_and, and_true, beq_true, beq_false, Bool.true_beq, Bool.false_beq, BEq.rfl, Int.reduceEq, Int.reduceLT, Int.reduceLE, Nat.reduceEqDiff, decide_true, decide_false, Bool.not_true, Bool.not_false, Bool.and_true, Bool.true_and, Bool.and_false, Bool.false_and, Bool.or_true, Bool.true_or, Bool.or_false, Bool.false_or, Bool.not_not, e6]
        refine s_levels_Levels_Room (s := z) ?_
        rw [hi2.room]
        try simp (maxSteps := 2000000) only [↓RG, RP, true_and, and_true, beq_true, beq_false, Bool.true_beq, Bool.false_beq, BEq.rfl, Int.reduceEq, Int.reduceLT, Int.reduceLE, Nat.reduceEqDiff, decide_true, decide_false, Bool.not_true, Bool.not_false, Bool.and_true, Bool.true_and, Bool.and_false, Bool.false_and, Bool.or_true, Bool.true_or, Bool.or_false, Bool.false_or, Bool.not_not, e7]
        rw [wsucc (by omega)]
        exact hJ (j + 1, z) ⟨by omega, hi2⟩ (by simp; omega)
  · have hj2 : j = n + 2 := by simp at h; omega
    subst hj2
    have hmn : min (n + 2) n = n := by omega
    have fin : ∀ z' : LvS, z'.most = n → totalC (z'.r :: z'.up) = n → (placesR (z'.r :: z'.up)).Nodup → (∀ q ∈ z'.r :: z'.up, idxC q.c ((n + 1 : Nat) : Int) = none) → lookRV z' ((n + 1 : Nat) : Int) = .tuple #[u64 0, .bool false] ∧ z'.cells.length = n := fun z' g1 g2 g3 g4 => by
      refine ⟨?_, ?_⟩
      · unfold lookRV
        rw [lookR_none fun r hr => (idxC_none (g4 r hr)).2.1]
      · unfold LvS.cells
        rw [cells_len (by rw [placesR_cons] at g3; exact g3), ← totalC_cons, g2]
    have hfree : ∀ q ∈ z.r :: z.up, idxC q.c ((n + 1 : Nat) : Int) = none := fun q hq => hi.free (by rw [hmn]; omega) hq
    by_cases h6 : (6 : Int) < (n : Int)
    · have hs := hi.inmost n (by omega) (by rw [hmn]; omega)
      have hq : lErr z n = 0 := by
        unfold lErr
        rw [if_pos (okAt_iff.2 ⟨by omega, by omega⟩), if_pos hs]
      have hpl : placesR (⟨putC z.r.c n 8, z.r.f⟩ :: z.up) = placesR (z.r :: z.up) := by
        rw [placesR_cons, placesR_cons, putC_places, if_pos hs]
      have htot : totalC (⟨putC z.r.c n 8, z.r.f⟩ :: z.up) = totalC (z.r :: z.up) := by
        rw [totalC_cons, totalC_cons, putC_length, if_pos hs]
      obtain ⟨f1, f2⟩ := fin (z.put n 8) hi.most (by show totalC (⟨putC z.r.c n 8, z.r.f⟩ :: z.up) = n; rw [htot, hi.total, hmn]) (by show (placesR (⟨putC z.r.c n 8, z.r.f⟩ :: z.up)).Nodup; rw [hpl]; exact hi.nodup) (fun q hq => by
        rcases List.mem_cons.1 hq with e | hq
        · subst e
          have h1 := hfree z.r (by simp)
          have h2 : (idxC (putC z.r.c n 8) ((n + 1 : Nat) : Int)).isSome = false := by
            rw [idxC_isSome, lookC_put, if_neg (by omega), ← idxC_isSome, h1]; rfl
          show idxC (putC z.r.c n 8) ((n + 1 : Nat) : Int) = none
          simpa using h2
        · exact hfree q (List.mem_cons_of_mem _ hq))
      have hroom : (z.put n 8).room = 0 := by
        unfold LvS.room
        show z.most - (totalC (⟨putC z.r.c n 8, z.r.f⟩ :: z.up) : Int) = 0
        rw [htot, hi.total, hi.most]; omega
      try simp (maxSteps := 2000000) only [↓RG, RP, true_and, and_true, beq_true, beq_false, Bool.true_beq, Bool.false_beq, BEq.rfl, Int.reduceEq, Int.reduceLT, Int.reduceLE, Nat.reduceEqDiff, decide_true, decide_false, Bool.not_true, Bool.not_false, Bool.and_true, Bool.true_and, Bool.and_false, Bool.false_and, Bool.or_true, Bool.true_or, Bool.or_false, Bool.false_or, Bool.not_not, h6]
      refine s_levels_Levels_Put (s := z) ?_
      rw [hq, if_pos rfl]
      try simp (maxSteps := 2000000) only [↓RG, RP, true_and, and_true, beq_true, beq_false, Bool.true_beq, Bool.false_beq, BEq.rfl, Int.reduceEq, Int.reduceLT, Int.reduceLE, Nat.reduceEqDiff, decide_true, decide_false, Bool.not_true, Bool.not_false, Bool.and_true, Bool.true_and, Bool.and_false, Bool.false_and, Bool.or_true, Bool.true_or, Bool.or_false, Bool.false_or, Bool.not_not]
      refine s_levels_Levels_Room (s := z.put n 8) ?_
      rw [hroom]
      try simp (maxSteps := 2000000) only [↓RG, RP, true_and, and_true, beq_true, beq_false, Bool.true_beq, Bool.false_beq, BEq.rfl, Int.reduceEq, Int.reduceLT, Int.reduceLE, Nat.reduceEqDiff, decide_true, decide_false, Bool.not_true, Bool.not_false, Bool.and_true, Bool.true_and, Bool.and_false, Bool.false_and, Bool.or_true, Bool.true_or, Bool.or_false, Bool.false_or, Bool.not_not]
      rw [wsucc (by omega)]
      refine s_levels_Levels_Get (s := z.put n 8) ?_
      rw [f1]
      try simp (maxSteps := 2000000) only [↓RG, RP, true_and, and_true, beq_true, beq_false, Bool.true_beq, Bool.false_beq, BEq.rfl, Int.reduceEq, Int.reduceLT, Int.reduceLE, Nat.reduceEqDiff, decide_true, decide_false, Bool.not_true, Bool.not_false, Bool.and_true, Bool.true_and, Bool.and_false, Bool.false_and, Bool.or_true, Bool.true_or, Bool.or_false, Bool.false_or, Bool.not_not]
      refine s_levels_Levels_Cells (s := z.put n 8) fun u hu => ?_
      try simp (maxSteps := 2000000) only [↓RG, RP, true_and, and_true, beq_true, beq_false, Bool.true_beq, Bool.false_beq, BEq.rfl, Int.reduceEq, Int.reduceLT, Int.reduceLE, Nat.reduceEqDiff, decide_true, decide_false, Bool.not_true, Bool.not_false, Bool.and_true, Bool.true_and, Bool.and_false, Bool.false_and, Bool.or_true, Bool.true_or, Bool.or_false, Bool.false_or, Bool.not_not, f2]
      exact hK.sub
    · obtain ⟨f1, f2⟩ := fin z hi.most (by rw [hi.total, hmn]) hi.nodup hfree
      try simp (maxSteps := 2000000) only [↓RG, RP, true_and, and_true, beq_true, beq_false, Bool.true_beq, Bool.false_beq, BEq.rfl, Int.reduceEq, Int.reduceLT, Int.reduceLE, Nat.reduceEqDiff, decide_true, decide_false, Bool.not_true, Bool.not_false, Bool.and_true, Bool.true_and, Bool.and_false, Bool.false_and, Bool.or_true, Bool.true_or, Bool.or_false, Bool.false_or, Bool.not_not, h6]
      rw [wsucc (by omega)]
      refine s_levels_Levels_Get (s := z) ?_
      rw [f1]
      try simp (maxSteps := 2000000) only [↓RG, RP, true_and, and_true, beq_true, beq_false, Bool.true_beq, Bool.false_beq, BEq.rfl, Int.reduceEq, Int.reduceLT, Int.reduceLE, Nat.reduceEqDiff, decide_true, decide_false, Bool.not_true, Bool.not_false, Bool.and_true, Bool.true_and, Bool.and_false, Bool.false_and, Bool.or_true, Bool.true_or, Bool.or_false, Bool.false_or, Bool.not_not]
      refine s_levels_Levels_Cells (s := z) fun u hu => ?_
      try simp (maxSteps := 2000000) only [↓RG, RP, true_and, and_true, beq_true, beq_false, Bool.true_beq, Bool.false_beq, BEq.rfl, Int.reduceEq, Int.reduceLT, Int.reduceLE, Nat.reduceEqDiff, decide_true, decide_false, Bool.not_true, Bool.not_false, Bool.and_true, Bool.true_and, Bool.and_false, Bool.false_and, Bool.or_true, Bool.true_or, Bool.or_false, Bool.false_or, Bool.not_not, f2]
      exact hK.sub

end
end Go.Proofs.Ytkghefbdhljgiaa.S
