/-
  CHAPTER 10: the document's view; the two side by side.
-/
import Derived.Test.YtlgdcfocnaifbaaViewLaw
import Derived.Test.YtlgdcfocnaifbaaRefLevelsC
namespace Go.Proofs.Ytlgdcfocnaifbaa.S
open Go Go.Proofs
set_option linter.unusedVariables false
set_option linter.unusedSimpArgs false

def RViewR (b : Nat) (s : VwS) : Asn := exA fun vk => exA fun lp => star (pureA (Cells vk [vk] ∧ OkV s)) (star (star (own b [i64 s.size, vk, ptr lp 0, i64 s.need]) (sl tCellE vk s.k)) (ob RLevelsR lp s.l))

section
variable {w0 : Base} {L M : List Asn} {K : KV} {F : World → Prop} {C : Asn → List Asn} {b c lp : Nat} {a x n : Int} {s : VwS} {v vk : Value}

theorem RViewR_open : G w0 (ob RViewR b s :: M) F = ∀ vk lp, (Cells vk [vk] ∧ OkV s) → G w0 (own b [i64 s.size, vk, ptr lp 0, i64 s.need] :: sl tCellE vk s.k :: ob RLevelsR lp s.l :: M) F := by
  rw [ob_eq, RViewR]
  simp only [G_ex, G_star, G_pure]
theorem RViewR_close (b lp : Nat) (s : VwS) [PickAll [own b [i64 s.size, vk, ptr lp 0, i64 s.need], sl tCellE vk s.k, ob RLevelsR lp s.l] L M] (h : Cells vk [vk] ∧ OkV s) (H : G w0 (ob RViewR b s :: M) F) : G w0 L F :=
  G.pickAll (As := [own b [i64 s.size, vk, ptr lp 0, i64 s.need], sl tCellE vk s.k, ob RLevelsR lp s.l]) (by rw [RViewR_open] at H; exact H vk lp h)

theorem OkV.new {w m : Int} : OkV ⟨(held w 32 256).toNat, [], ⟨held m 0 96, ⟨[], []⟩, []⟩, 0⟩ := by
  have hb := held_le (n := w) (show (32 : Int) ≤ 256 by omega)
  exact ⟨by show 32 ≤ (held w 32 256).toNat; omega, by show (held w 32 256).toNat ≤ 256; omega, by simp, by simp⟩

theorem s_ref7_NewView {w m : Int} (hK : ∀ b, G w0 (ob RViewR b ⟨(held w 32 256).toNat, [], ⟨held m 0 96, ⟨[], []⟩, []⟩, 0⟩ :: L) (K (ptr b 0))) : G w0 L (CP Try.prog Fn.ref7_NewView [i64 w, i64 m] K) := by
  have hb := held_le (n := w) (show (32 : Int) ≤ 256 by omega)
  have e : held w 32 256 = ((held w 32 256).toNat : Int) := by omega
  refine C_ref7_NewView ?_
  unfold S_ref7_NewView
  refine s_ref1_Held ?_
  refine s_ref7_NewLevels fun lp => ?_
  rw [e]
  try simp (maxSteps := 2000000) only [↓RG, RP, true_and, and_true, beq_true, beq_false, Bool.true_beq, Bool.false_beq, BEq.rfl, Int.reduceEq, Int.reduceLT, Int.reduceLE, Nat.reduceEqDiff, decide_true, decide_false, Bool.not_true, Bool.not_false, Bool.and_true, Bool.true_and, Bool.and_false, Bool.false_and, Bool.or_true, Bool.true_or, Bool.or_false, Bool.false_or, Bool.not_not]
  refine G.nilsl tCellE ?_
  refine G.box fun b => ?_
  refine RViewR_close (vk := .slice none 0 0) b lp ⟨(held w 32 256).toNat, [], ⟨held m 0 96, ⟨[], []⟩, []⟩, 0⟩ ⟨cells_slice, OkV.new⟩ ?_
  exact hK b

theorem s_ref7_View_In [i : SelOb L RViewR b s C] (hK : G w0 L (K (.bool (isV s a)))) : G w0 L (CP Try.prog Fn.ref7_View_In [ptr b 0, i64 a] K) := by
  refine i.ro (fun M hK => ?_) hK
  rw [RViewR_open] at *
  intro vk lp h
  have hK := hK vk lp h
  refine C_ref7_View_In ?_
  unfold S_ref7_View_In
  try simp (maxSteps := 2000000) only [fuse_and, fuse_or, fuse_step, fuse_pair, fuse_in, andP_true]
  try simp (maxSteps := 2000000) only [↓RG, RP, true_and, and_true, beq_true, beq_false, Bool.true_beq, Bool.false_beq, BEq.rfl, Int.reduceEq, Int.reduceLT, Int.reduceLE, Nat.reduceEqDiff, decide_true, decide_false, Bool.not_true, Bool.not_false, Bool.and_true, Bool.true_and, Bool.and_false, Bool.false_and, Bool.or_true, Bool.true_or, Bool.or_false, Bool.false_or, Bool.not_not]
  refine G.all (decide (a < s.size)) (fun _ K hK => by try simp (maxSteps := 2000000) only [↓RG, RP, true_and, and_true, beq_true, beq_false, Bool.true_beq, Bool.false_beq, BEq.rfl, Int.reduceEq, Int.reduceLT, Int.reduceLE, Nat.reduceEqDiff, decide_true, decide_false, Bool.not_true, Bool.not_false, Bool.and_true, Bool.true_and, Bool.and_false, Bool.false_and, Bool.or_true, Bool.true_or, Bool.or_false, Bool.false_or, Bool.not_not]; exact hK) ?_
  exact hK

theorem s_ref7_View_Know [i : SelOb L RViewR b s C] (hk : s.k.length ≤ 1000000) (hK : G w0 (C (ob RViewR b (vKnow s a x).1)) (K (i64 (vKnow s a x).2))) : G w0 L (CP Try.prog Fn.ref7_View_Know [ptr b 0, i64 a, u64 x] K) := by
  refine i.use (fun M hK => ?_) hK
  refine C_ref7_View_Know ?_
  unfold S_ref7_View_Know
  refine s_ref7_View_In (s := s) ?_
  unfold vKnow at hK
  cases hv : isV s a with
  | false =>
    rw [hv] at hK
    try simp (maxSteps := 2000000) only [↓RG, RP, true_and, and_true, beq_true, beq_false, Bool.true_beq, Bool.false_beq, BEq.rfl, Int.reduceEq, Int.reduceLT, Int.reduceLE, Nat.reduceEqDiff, decide_true, decide_false, Bool.not_true, Bool.not_false, Bool.and_true, Bool.true_and, Bool.and_false, Bool.false_and, Bool.or_true, Bool.true_or, Bool.or_false, Bool.false_or, Bool.not_not]
    exact hK
  | true =>
    rw [hv, if_pos rfl] at hK
    rw [RViewR_open]
    rintro vk lp ⟨h1, h3⟩
    try simp (maxSteps := 2000000) only [↓RG, RP, true_and, and_true, beq_true, beq_false, Bool.true_beq, Bool.false_beq, BEq.rfl, Int.reduceEq, Int.reduceLT, Int.reduceLE, Nat.reduceEqDiff, decide_true, decide_false, Bool.not_true, Bool.not_false, Bool.and_true, Bool.true_and, Bool.and_false, Bool.false_and, Bool.or_true, Bool.true_or, Bool.or_false, Bool.false_or, Bool.not_not]
    refine s_ref7_Place (cs := s.k) hk ?_
    cases hl : lookC s.k a with
    | some y =>
      rw [hl] at hK
      dsimp only at hK
      obtain ⟨m, hi, hm, hmw⟩ := lookC_idx hl
      have em := elem_of hm
      have hm0 : (0 : Int) ≤ (m : Int) := by omega
      rw [idxI_some hi]
      by_cases hy : y = x
      · rw [if_pos hy, RViewR_open] at hK
        try simp (maxSteps := 2000000) only [↓RG, RP, true_and, and_true, beq_true, beq_false, Bool.true_beq, Bool.false_beq, BEq.rfl, Int.reduceEq, Int.reduceLT, Int.reduceLE, Nat.reduceEqDiff, decide_true, decide_false, Bool.not_true, Bool.not_false, Bool.and_true, Bool.true_and, Bool.and_false, Bool.false_and, Bool.or_true, Bool.true_or, Bool.or_false, Bool.false_or, Bool.not_not, hm0, hmw, hy]
        exact hK vk lp ⟨h1, h3⟩
      · rw [if_neg hy, RViewR_open] at hK
        try simp (maxSteps := 2000000) only [↓RG, RP, true_and, and_true, beq_true, beq_false, Bool.true_beq, Bool.false_beq, BEq.rfl, Int.reduceEq, Int.reduceLT, Int.reduceLE, Nat.reduceEqDiff, decide_true, decide_false, Bool.not_true, Bool.not_false, Bool.and_true, Bool.true_and, Bool.and_false, Bool.false_and, Bool.or_true, Bool.true_or, Bool.or_false, Bool.false_or, Bool.not_not, hm0, hmw, hy]
        exact hK vk lp ⟨h1, h3⟩
    | none =>
      rw [hl] at hK
      dsimp only at hK
      have hi : idxC s.k a = none := by
        have := idxC_isSome (cs := s.k) (a := a)
        rw [hl] at this
        simpa using this
      have h4 := h3.know (x := x) hv hl
      rw [idxI_none hi]
      try simp (maxSteps := 2000000) only [↓RG, RP, true_and, and_true, beq_true, beq_false, Bool.true_beq, Bool.false_beq, BEq.rfl, Int.reduceEq, Int.reduceLT, Int.reduceLE, Nat.reduceEqDiff, decide_true, decide_false, Bool.not_true, Bool.not_false, Bool.and_true, Bool.true_and, Bool.and_false, Bool.false_and, Bool.or_true, Bool.true_or, Bool.or_false, Bool.false_or, Bool.not_not]
      refine G.append1 (E := tCellE) (a := ⟨a, x⟩) rfl rfl (by decide) (by omega) (by simp only [maxLen]; omega) fun u hu => ?_
      try simp (maxSteps := 2000000) only [↓RG, RP, true_and, and_true, beq_true, beq_false, Bool.true_beq, Bool.false_beq, BEq.rfl, Int.reduceEq, Int.reduceLT, Int.reduceLE, Nat.reduceEqDiff, decide_true, decide_false, Bool.not_true, Bool.not_false, Bool.and_true, Bool.true_and, Bool.and_false, Bool.false_and, Bool.or_true, Bool.true_or, Bool.or_false, Bool.false_or, Bool.not_not]
      refine RViewR_close b lp ⟨s.size, s.k ++ [⟨a, x⟩], s.l, s.need⟩ ⟨hu, h4⟩ ?_
      exact hK

theorem s_ref7_View_Read [i : SelOb L RViewR b s C] (hk : s.k.length ≤ 1000000) (hK : G w0 (C (ob RViewR b (vRead s a).1)) (K (.tuple #[u64 (vRead s a).2.1, i64 (vRead s a).2.2]))) : G w0 L (CP Try.prog Fn.ref7_View_Read [ptr b 0, i64 a] K) := by
  refine i.use (fun M hK => ?_) hK
  refine C_ref7_View_Read ?_
  unfold S_ref7_View_Read
  refine s_ref7_View_In (s := s) ?_
  unfold vRead at hK
  cases hv : isV s a with
  | false =>
    rw [hv] at hK
    try simp (maxSteps := 2000000) only [↓RG, RP, true_and, and_true, beq_true, beq_false, Bool.true_beq, Bool.false_beq, BEq.rfl, Int.reduceEq, Int.reduceLT, Int.reduceLE, Nat.reduceEqDiff, decide_true, decide_false, Bool.not_true, Bool.not_false, Bool.and_true, Bool.true_and, Bool.and_false, Bool.false_and, Bool.or_true, Bool.true_or, Bool.or_false, Bool.false_or, Bool.not_not]
    exact hK
  | true =>
    rw [hv, if_pos rfl] at hK
    rw [RViewR_open]
    rintro vk lp ⟨h1, h3⟩
    try simp (maxSteps := 2000000) only [↓RG, RP, true_and, and_true, beq_true, beq_false, Bool.true_beq, Bool.false_beq, BEq.rfl, Int.reduceEq, Int.reduceLT, Int.reduceLE, Nat.reduceEqDiff, decide_true, decide_false, Bool.not_true, Bool.not_false, Bool.and_true, Bool.true_and, Bool.and_false, Bool.false_and, Bool.or_true, Bool.true_or, Bool.or_false, Bool.false_or, Bool.not_not]
    refine s_ref7_Levels_Get (b := lp) (s := s.l) ?_
    unfold lookRV
    cases hr : lookR (s.l.r :: s.l.up) a with
    | some y =>
      rw [hr] at hK
      dsimp only at hK
      rw [RViewR_open] at hK
      try simp (maxSteps := 2000000) only [↓RG, RP, true_and, and_true, beq_true, beq_false, Bool.true_beq, Bool.false_beq, BEq.rfl, Int.reduceEq, Int.reduceLT, Int.reduceLE, Nat.reduceEqDiff, decide_true, decide_false, Bool.not_true, Bool.not_false, Bool.and_true, Bool.true_and, Bool.and_false, Bool.false_and, Bool.or_true, Bool.true_or, Bool.or_false, Bool.false_or, Bool.not_not]
      exact hK vk lp ⟨h1, h3⟩
    | none =>
      rw [hr] at hK
      dsimp only at hK
      try simp (maxSteps := 2000000) only [↓RG, RP, true_and, and_true, beq_true, beq_false, Bool.true_beq, Bool.false_beq, BEq.rfl, Int.reduceEq, Int.reduceLT, Int.reduceLE, Nat.reduceEqDiff, decide_true, decide_false, Bool.not_true, Bool.not_false, Bool.and_true, Bool.true_and, Bool.and_false, Bool.false_and, Bool.or_true, Bool.true_or, Bool.or_false, Bool.false_or, Bool.not_not]
      refine s_ref7_Place (cs := s.k) hk ?_
      cases hl : lookC s.k a with
      | some y =>
        rw [hl] at hK
        dsimp only at hK
        rw [RViewR_open] at hK
        obtain ⟨m, hi, hm, hmw⟩ := lookC_idx hl
        have em := elem_of hm
        have hm0 : (0 : Int) ≤ (m : Int) := by omega
        rw [idxI_some hi]
        try simp (maxSteps := 2000000) only [↓RG, RP, true_and, and_true, beq_true, beq_false, Bool.true_beq, Bool.false_beq, BEq.rfl, Int.reduceEq, Int.reduceLT, Int.reduceLE, Nat.reduceEqDiff, decide_true, decide_false, Bool.not_true, Bool.not_false, Bool.and_true, Bool.true_and, Bool.and_false, Bool.false_and, Bool.or_true, Bool.true_or, Bool.or_false, Bool.false_or, Bool.not_not, hm0, hmw]
        exact hK vk lp ⟨h1, h3⟩
      | none =>
        rw [hl] at hK
        dsimp only at hK
        rw [RViewR_open] at hK
        have hi : idxC s.k a = none := by
          have := idxC_isSome (cs := s.k) (a := a)
          rw [hl] at this
          simpa using this
        rw [idxI_none hi]
        try simp (maxSteps := 2000000) only [↓RG, RP, true_and, and_true, beq_true, beq_false, Bool.true_beq, Bool.false_beq, BEq.rfl, Int.reduceEq, Int.reduceLT, Int.reduceLE, Nat.reduceEqDiff, decide_true, decide_false, Bool.not_true, Bool.not_false, Bool.and_true, Bool.true_and, Bool.and_false, Bool.false_and, Bool.or_true, Bool.true_or, Bool.or_false, Bool.false_or, Bool.not_not]
        exact hK vk lp ⟨h1, h3.lo, h3.hi, h3.places, h3.nodup⟩

theorem s_ref7_View_Take {l : List TCell} [i : SelOb L RViewR b s C] [r : ∀ A, Rd w0 (C A) v tCellE 2 l] (hl : l.length ≤ 1000000) (hf : s.l.frees.length ≤ 1000000) (hK : G w0 (C (ob RViewR b (vTake s l).1)) (K (i64 (vTake s l).2))) : G w0 L (CP Try.prog Fn.ref7_View_Take [ptr b 0, v] K) := by
  refine i.useM (fun M hM hK => ?_) hK
  have r' := Rd.frame hM r
  refine C_ref7_View_Take ?_
  unfold S_ref7_View_Take
  refine G.loop1 (fun k : Nat => i64 k) (fun _ => ob RViewR b s :: M) (fun k => k ≤ l.length ∧ (l.take k).all (fun c => isV s c.place) = true) (fun k => l.length - k) 0 rfl rfl ⟨by simp, by simp⟩ ?_
  rintro k ⟨hk, hp⟩ J hJ
  try simp (maxSteps := 2000000) only [↓RG, RP, true_and, and_true, beq_true, beq_false, Bool.true_beq, Bool.false_beq, BEq.rfl, Int.reduceEq, Int.reduceLT, Int.reduceLE, Nat.reduceEqDiff, decide_true, decide_false, Bool.not_true, Bool.not_false, Bool.and_true, Bool.true_and, Bool.and_false, Bool.false_and, Bool.or_true, Bool.true_or, Bool.or_false, Bool.false_or, Bool.not_not]
  refine G.cond (fun h => ?_) (fun h => ?_)
  · have hk2 : k < l.length := by simpa using h
    have e := elem_of hk2
    try simp (maxSteps := 2000000) only [↓RG, RP, true_and, and_true, beq_true, beq_false, Bool.true_beq, Bool.false_beq, BEq.rfl, Int.reduceEq, Int.reduceLT, Int.reduceLE, Nat.reduceEqDiff, decide_true, decide_false, Bool.not_true, Bool.not_false, Bool.and_true, Bool.true_and, Bool.and_false, Bool.false_and, Bool.or_true, Bool.true_or, Bool.or_false, Bool.false_or, Bool.not_not]
    refine s_ref7_View_In (s := s) ?_
    cases hv : isV s l[k].place with
    | false =>
      have h4 : vTake s l = (s, 2) := by
        unfold vTake
        rw [if_neg]
        intro hall
        rw [List.all_eq_true] at hall
        rw [hall _ (List.getElem_mem hk2)] at hv
        cases hv
      rw [h4] at hK
      try simp (maxSteps := 2000000) only [↓RG, RP, true_and, and_true, beq_true, beq_false, Bool.true_beq, Bool.false_beq, BEq.rfl, Int.reduceEq, Int.reduceLT, Int.reduceLE, Nat.reduceEqDiff, decide_true, decide_false, Bool.not_true, Bool.not_false, Bool.and_true, Bool.true_and, Bool.and_false, Bool.false_and, Bool.or_true, Bool.true_or, Bool.or_false, Bool.false_or, Bool.not_not]
      exact hK.sub
    | true =>
      try simp (maxSteps := 2000000) only [↓RG, RP, true_and, and_true, beq_true, beq_false, Bool.true_beq, Bool.false_beq, BEq.rfl, Int.reduceEq, Int.reduceLT, Int.reduceLE, Nat.reduceEqDiff, decide_true, decide_false, Bool.not_true, Bool.not_false, Bool.and_true, Bool.true_and, Bool.and_false, Bool.false_and, Bool.or_true, Bool.true_or, Bool.or_false, Bool.false_or, Bool.not_not]
      rw [wsucc (by omega)]
      refine (hJ (k + 1) ⟨hk2, ?_⟩ (by omega)).sub
      rw [List.take_add_one, List.getElem?_eq_getElem hk2, List.all_append, hp]
      simp [hv]
  · have ht : l.take k = l := List.take_of_length_le (by simpa using h)
    rw [ht] at hp
    unfold vTake at hK
    rw [if_pos hp] at hK
    rw [RViewR_open]
    rintro vk lp ⟨h1, h3⟩
    try simp (maxSteps := 2000000) only [↓RG, RP, true_and, and_true, beq_true, beq_false, Bool.true_beq, Bool.false_beq, BEq.rfl, Int.reduceEq, Int.reduceLT, Int.reduceLE, Nat.reduceEqDiff, decide_true, decide_false, Bool.not_true, Bool.not_false, Bool.and_true, Bool.true_and, Bool.and_false, Bool.false_and, Bool.or_true, Bool.true_or, Bool.or_false, Bool.false_or, Bool.not_not]
    refine s_ref7_Levels_Take (b := lp) (s := s.l) (l := l) hl hf ?_
    refine RViewR_close b lp (s.log (lTake s.l l).1) ⟨h1, h3.log⟩ ?_
    exact hK

theorem s_ref7_Whole {ws : List Int} {m : Int} [r : Rd w0 L v wordE 1 ws] (hl : ws.length ≤ 1000) (hK : ∀ b, G w0 (ob RViewR b (vAll ws m) :: L) (K (ptr b 0))) : G w0 L (CP Try.prog Fn.ref7_Whole [v, i64 m] K) := by
  have hb := held_le (n := (ws.length : Int)) (show (32 : Int) ≤ 256 by omega)
  refine C_ref7_Whole ?_
  unfold S_ref7_Whole
  try simp (maxSteps := 2000000) only [↓RG, RP, true_and, and_true, beq_true, beq_false, Bool.true_beq, Bool.false_beq, BEq.rfl, Int.reduceEq, Int.reduceLT, Int.reduceLE, Nat.reduceEqDiff, decide_true, decide_false, Bool.not_true, Bool.not_false, Bool.and_true, Bool.true_and, Bool.and_false, Bool.false_and, Bool.or_true, Bool.true_or, Bool.or_false, Bool.false_or, Bool.not_not]
  refine s_ref7_NewView fun b => ?_
  have hK := hK b
  unfold vAll at hK
  generalize hN : (held (ws.length : Int) 32 256).toNat = N at hK
  have hN1 : 32 ≤ N ∧ N ≤ 256 := by omega
  have hnone : ∀ j : Nat, lookC (knW ws j) ((j : Int) + 1) = none := fun j => knW_none (by omega)
  have hok : ∀ j : Nat, j ≤ N - 1 → OkV ⟨N, knW ws j, ⟨held m 0 96, ⟨[], []⟩, []⟩, 0⟩ := fun j => by
    induction j with
    | zero => exact fun _ => ⟨hN1.1, hN1.2, by simp [knW], by simp [knW]⟩
    | succ j ih =>
      intro hj
      have := (ih (by omega)).know (a := (j : Int) + 1) (x := ws.getD (j + 1) 0) (by simp [isV]; omega) (hnone j)
      rw [knW_succ]; exact this
  refine G.loop1 (fun j : Nat => i64 (j + 1 : Nat)) (fun j => ob RViewR b ⟨N, knW ws j, ⟨held m 0 96, ⟨[], []⟩, []⟩, 0⟩ :: L) (fun j => j ≤ N - 1) (fun j => N - j) 0 rfl rfl (by simp) ?_
  intro j hj J hJ
  rw [RViewR_open]
  rintro vk lp ⟨h1, h3⟩
  try simp (maxSteps := 2000000) only [↓RG, RP, true_and, and_true, beq_true, beq_false, Bool.true_beq, Bool.false_beq, BEq.rfl, Int.reduceEq, Int.reduceLT, Int.reduceLE, Nat.reduceEqDiff, decide_true, decide_false, Bool.not_true, Bool.not_false, Bool.and_true, Bool.true_and, Bool.and_false, Bool.false_and, Bool.or_true, Bool.true_or, Bool.or_false, Bool.false_or, Bool.not_not]
  refine G.cond (fun h => ?_) (fun h => ?_)
  · have hj2 : j + 1 < N := by simp at h; omega
    try simp (maxSteps := 2000000) only [↓RG, RP, true_and, and_true, beq_true, beq_false, Bool.true_beq, Bool.false_beq, BEq.rfl, Int.reduceEq, Int.reduceLT, Int.reduceLE, Nat.reduceEqDiff, decide_true, decide_false, Bool.not_true, Bool.not_false, Bool.and_true, Bool.true_and, Bool.and_false, Bool.false_and, Bool.or_true, Bool.true_or, Bool.or_false, Bool.false_or, Bool.not_not]
    refine G.join1 (fun x : Int => u64 x) (fun _ => own b [i64 N, vk, ptr lp 0, i64 0] :: sl tCellE vk (knW ws j) :: ob RLevelsR lp ⟨held m 0 96, ⟨[], []⟩, []⟩ :: L) (fun x => x = ws.getD (j + 1) 0) ?_ (fun J2 hJ2 => ?_)
    · intro x hx
      subst hx
      try simp (maxSteps := 2000000) only [↓RG, RP, true_and, and_true, beq_true, beq_false, Bool.true_beq, Bool.false_beq, BEq.rfl, Int.reduceEq, Int.reduceLT, Int.reduceLE, Nat.reduceEqDiff, decide_true, decide_false, Bool.not_true, Bool.not_false, Bool.and_true, Bool.true_and, Bool.and_false, Bool.false_and, Bool.or_true, Bool.true_or, Bool.or_false, Bool.false_or, Bool.not_not]
      refine G.append1 (E := tCellE) (a := ⟨((j + 1 : Nat) : Int), ws.getD (j + 1) 0⟩) rfl rfl (by decide) (by simp only [knW_len]; omega) (by simp only [maxLen, knW_len]; omega) fun u hu => ?_
      try simp (maxSteps := 2000000) only [↓RG, RP, true_and, and_true, beq_true, beq_false, Bool.true_beq, Bool.false_beq, BEq.rfl, Int.reduceEq, Int.reduceLT, Int.reduceLE, Nat.reduceEqDiff, decide_true, decide_false, Bool.not_true, Bool.not_false, Bool.and_true, Bool.true_and, Bool.and_false, Bool.false_and, Bool.or_true, Bool.true_or, Bool.or_false, Bool.false_or, Bool.not_not]
      rw [wsucc (by omega)]
      have e : knW ws j ++ [⟨((j + 1 : Nat) : Int), ws.getD (j + 1) 0⟩] = knW ws (j + 1) := by rw [knW_succ]; rfl
      rw [e]
      refine RViewR_close b lp ⟨N, knW ws (j + 1), ⟨held m 0 96, ⟨[], []⟩, []⟩, 0⟩ ⟨hu, hok (j + 1) (by omega)⟩ ?_
      exact hJ (j + 1) (by omega) (by omega)
    · refine G.cond (fun h2 => ?_) (fun h2 => ?_)
      · have hj3 : j + 1 < ws.length := by simp at h2; omega
        have e := elem_of hj3
        try simp (maxSteps := 2000000) only [↓RG, RP, true_and, and_true, beq_true, beq_false, Bool.true_beq, Bool.false_beq, BEq.rfl, Int.reduceEq, Int.reduceLT, Int.reduceLE, Nat.reduceEqDiff, decide_true, decide_false, Bool.not_true, Bool.not_false, Bool.and_true, Bool.true_and, Bool.and_false, Bool.false_and, Bool.or_true, Bool.true_or, Bool.or_false, Bool.false_or, Bool.not_not]
        exact hJ2 _ (by simp [hj3])
      · have hj3 : ¬ j + 1 < ws.length := by simp at h2; omega
        exact hJ2 0 (by rw [List.getD_eq_getElem?_getD, List.getElem?_eq_none (by omega)]; rfl)
  · have hj2 : j = N - 1 := by simp at h; omega
    subst hj2
    refine RViewR_close b lp ⟨N, knW ws (N - 1), ⟨held m 0 96, ⟨[], []⟩, []⟩, 0⟩ ⟨h1, h3⟩ ?_
    exact hK

end
end Go.Proofs.Ytlgdcfocnaifbaa.S
