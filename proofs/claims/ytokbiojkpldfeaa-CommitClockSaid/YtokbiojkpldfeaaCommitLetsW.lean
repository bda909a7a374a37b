/-
  CHAPTER 25: CommitLets, CommitClock: the walks.
-/
import Derived.Test.YtokbiojkpldfeaaCommitLets
namespace Go.Proofs.Ytokbiojkpldfeaa.S
open Go Go.Proofs
set_option linter.unusedVariables false
set_option linter.unusedSimpArgs false

theorem stripes8 {cs : List TCell} {wide : Int} : ∀ s ∈ marked (hasStripe cs 8 wide) 16, 0 ≤ s ∧ s.toNat < 8 := by
  intro s hs
  obtain ⟨j, hj, h, rfl⟩ := mem_marked.1 hs
  have h2 : (j : Int) ∈ stripesOf cs 8 wide := by simpa [hasStripe] using h
  simp only [stripesOf, List.mem_filter, List.mem_map, decide_eq_true_eq] at h2
  obtain ⟨⟨c, _, e⟩, h0⟩ := h2
  have : (j : Int) < 8 := by
    rw [← e] at h0 ⊢
    unfold stripeOf at h0 ⊢
    split
    · omega
    · have := Int.tmod_lt_of_pos (IntKind.wrap .i64 (c.place.tdiv (held wide 1 16))) (show 0 < held 8 1 16 by decide)
      have : held 8 1 16 = 8 := by decide
      omega
  omega
theorem marked_few {f : Nat → Bool} {m : Nat} : (marked f m).length ≤ m := by
  unfold marked
  rw [List.length_map]
  exact Nat.le_trans (List.length_filter_le _ _) (by simp)
theorem stripes_ne {cs : List TCell} {c : TCell} (hc : c ∈ cs) {wide : Int} (h : 0 ≤ stripeOf c.place 8 wide) : stripeOf c.place 8 wide ∈ marked (hasStripe cs 8 wide) 16 := by
  obtain ⟨s, e, hs⟩ := stripeOf_lt h
  rw [e, mem_marked]
  refine ⟨s, hs, ?_, rfl⟩
  have : (s : Int) ∈ stripesOf cs 8 wide := by
    simp only [stripesOf, List.mem_filter, List.mem_map, decide_eq_true_eq]
    exact ⟨⟨c, hc, e⟩, by omega⟩
  simpa [hasStripe] using this
theorem row8 {S : List Int} {me : Int} (hS : ∀ s ∈ S, 0 ≤ s ∧ s.toNat < 8) (hr : S.Pairwise (· < ·)) (hm : 0 ≤ me ∧ me < 4) {ls : List TLock} (hl : ls.length = 8) (hi : ∀ z ∈ ls, isLock z = true) : RowOk ls S me := ⟨hi, fun s hs => by rw [hl]; exact hS s hs, hr, hm⟩

section
variable {w0 : Base} {L M : List Asn} {K : KV} {F : World → Prop} {C : Asn → List Asn} {b c : Nat} {x : ComS} {m : MemS}

set_option maxHeartbeats 1000000 in
theorem s_law25_CommitLets {l0 : Value} {qs : List TCell} {at_ by0 sp : Int} {how : Bool} [a : Arg w0 l0 tCellE qs] (hn1 : inK .u8 at_) (hn2 : inK .u8 by0) (hn4 : inK .u8 sp) (hK : G w0 L (K (.bool true))) :
    G w0 L (CP Try.prog Fn.law25_CommitLets [l0, .int .u8 at_, .int .u8 by0, .bool how, .int .u8 sp] K) := by
  have g1 := inK_u8 hn1
  have g2 := inK_u8 hn2
  have g4 := inK_u8 hn4
  obtain ⟨s0, es0, hs0⟩ : ∃ n : Nat, IntKind.wrap .i64 (at_.tmod 8) = (n : Int) ∧ n < 8 := by
    rw [Int.tmod_eq_emod_of_nonneg g1.1, wi64 (by omega) (by omega)]
    exact ⟨(at_ % 8).toNat, by omega, by omega⟩
  obtain ⟨o, eo, ho⟩ : ∃ n : Int, IntKind.wrap .i64 (by0.tmod 3) = n ∧ 0 ≤ n ∧ n < 3 := by
    rw [Int.tmod_eq_emod_of_nonneg g2.1, wi64 (by omega) (by omega)]
    exact ⟨by0 % 3, rfl, by omega, by omega⟩
  refine C_law25_CommitLets ?_
  unfold S_law25_CommitLets
  refine s_law25_CommitRuns ?_
  try simp (maxSteps := 2000000) only [fuse_and, fuse_or, fuse_step, fuse_pair, fuse_in, andP_true]
  try simp (maxSteps := 2000000) only [↓RG, RP, true_and, and_true, beq_true, beq_false, Bool.true_beq, Bool.false_beq, BEq.rfl, Int.reduceEq, Int.reduceLT, Int.reduceLE, Nat.reduceEqDiff, decide_true, decide_false, Bool.not_true, Bool.not_false, Bool.and_true, Bool.true_and, Bool.and_false, Bool.false_and, Bool.or_true, Bool.true_or, Bool.or_false, Bool.false_or, Bool.not_not]
  refine s_mem_New (s := ⟨64, 8, 1, 4, 3⟩) fun c => ?_
  obtain ⟨m0, hm0, mw, ml, mn⟩ : ∃ m0, newMem ⟨64, 8, 1, 4, 3⟩ = m0 ∧ m0.w = List.replicate 64 0 ∧ m0.l = List.replicate 8 zeroLock ∧ m0.n = 3 := ⟨_, rfl, rfl, rfl, rfl⟩
  rw [hm0]
  try simp (maxSteps := 2000000) only [↓RG, RP, true_and, and_true, beq_true, beq_false, Bool.true_beq, Bool.false_beq, BEq.rfl, Int.reduceEq, Int.reduceLT, Int.reduceLE, Nat.reduceEqDiff, decide_true, decide_false, Bool.not_true, Bool.not_false, Bool.and_true, Bool.true_and, Bool.and_false, Bool.false_and, Bool.or_true, Bool.true_or, Bool.or_false, Bool.false_or, Bool.not_not]
  refine G.nilsl tCellE ?_
  refine G.loop2 (σ := Value × List TCell × Nat) (fun z => z.1) (fun z => i64 z.2.2) (fun z => sl tCellE z.1 z.2.1 :: ob MemR c m0 :: L) (fun z => z.2.2 ≤ 20 ∧ z.2.1.length ≤ z.2.2 ∧ Cells z.1 [z.1] ∧ ∀ c ∈ z.2.1, 1 ≤ c.place ∧ c.place < 64) (fun z => 20 - z.2.2) (.slice none 0 0, [], 0) rfl rfl rfl ⟨by simp, by simp, cells_slice, by simp⟩ ?_
  rintro ⟨u, l, k⟩ ⟨hk, hl, hu, hin⟩ J hJ
  simp only at hk hl hu hin hJ ⊢
  try simp (maxSteps := 2000000) only [↓RG, RP, true_and, and_true, beq_true, beq_false, Bool.true_beq, Bool.false_beq, BEq.rfl, Int.reduceEq, Int.reduceLT, Int.reduceLE, Nat.reduceEqDiff, decide_true, decide_false, Bool.not_true, Bool.not_false, Bool.and_true, Bool.true_and, Bool.and_false, Bool.false_and, Bool.or_true, Bool.true_or, Bool.or_false, Bool.false_or, Bool.not_not]
  refine G.cond (fun h => ?_) (fun h => ?_)
  · have hk2 : k < qs.length ∧ k < 20 := by simp at h; omega
    have e := elem_of hk2.1
    have hwi := within_le (n := qs[k].place) (show (1 : Int) ≤ 63 by omega)
    have hple := putC_le (cs := l) (a := within qs[k].place 1 63) (x := qs[k].word)
    repeat' (first | (with_reducible refine G.joini0 ?_) | (with_reducible refine G.joini1 ?_) | (with_reducible refine G.drew ?_) | (simp (maxSteps := 2000000) only [↓RG, RP, true_and, and_true, beq_true, beq_false, Bool.true_beq, Bool.false_beq, BEq.rfl, Int.reduceEq, Int.reduceLT, Int.reduceLE, Nat.reduceEqDiff, decide_true, decide_false, Bool.not_true, Bool.not_false, Bool.and_true, Bool.true_and, Bool.and_false, Bool.false_and, Bool.or_true, Bool.true_or, Bool.or_false, Bool.false_or, Bool.not_not]))
    refine s_book_Within (by omega) (by omega) (by omega) (by omega) ?_
    repeat' (first | (with_reducible refine G.joini0 ?_) | (with_reducible refine G.joini1 ?_) | (with_reducible refine G.drew ?_) | (simp (maxSteps := 2000000) only [↓RG, RP, true_and, and_true, beq_true, beq_false, Bool.true_beq, Bool.false_beq, BEq.rfl, Int.reduceEq, Int.reduceLT, Int.reduceLE, Nat.reduceEqDiff, decide_true, decide_false, Bool.not_true, Bool.not_false, Bool.and_true, Bool.true_and, Bool.and_false, Bool.false_and, Bool.or_true, Bool.true_or, Bool.or_false, Bool.false_or, Bool.not_not]))
    refine s_ref7_Put (cs := l) (by omega) fun u2 hu2 => ?_
    repeat' (first | (with_reducible refine G.joini0 ?_) | (with_reducible refine G.joini1 ?_) | (with_reducible refine G.drew ?_) | (simp (maxSteps := 2000000) only [↓RG, RP, true_and, and_true, beq_true, beq_false, Bool.true_beq, Bool.false_beq, BEq.rfl, Int.reduceEq, Int.reduceLT, Int.reduceLE, Nat.reduceEqDiff, decide_true, decide_false, Bool.not_true, Bool.not_false, Bool.and_true, Bool.true_and, Bool.and_false, Bool.false_and, Bool.or_true, Bool.true_or, Bool.or_false, Bool.false_or, Bool.not_not]))
    rw [wsucc (by omega)]
    exact (hJ (u2, putC l (within qs[k].place 1 63) qs[k].word, k + 1) ⟨hk2.2, by simp only; omega, hu2, fun d hd => by
      rcases mem_putC hd with h1 | h1
      · exact hin d h1
      · omega⟩ (by simp; omega)).sub
  · try simp (maxSteps := 2000000) only [↓RG, RP, true_and, and_true, beq_true, beq_false, Bool.true_beq, Bool.false_beq, BEq.rfl, Int.reduceEq, Int.reduceLT, Int.reduceLE, Nat.reduceEqDiff, decide_true, decide_false, Bool.not_true, Bool.not_false, Bool.and_true, Bool.true_and, Bool.and_false, Bool.false_and, Bool.or_true, Bool.true_or, Bool.or_false, Bool.false_or, Bool.not_not]
    refine G.cond (fun h => hK.sub) (fun h => ?_)
    have hl0 : 0 < l.length := by simp at h; exact List.length_pos_iff.2 h
    have hr := marked_rising (f := hasStripe l 8 1) (m := 16)
    have hS := stripes8 (cs := l) (wide := 1)
    have hSl := marked_few (f := hasStripe l 8 1) (m := 16)
    try simp (maxSteps := 2000000) only [↓RG, RP, true_and, and_true, beq_true, beq_false, Bool.true_beq, Bool.false_beq, BEq.rfl, Int.reduceEq, Int.reduceLT, Int.reduceLE, Nat.reduceEqDiff, decide_true, decide_false, Bool.not_true, Bool.not_false, Bool.and_true, Bool.true_and, Bool.and_false, Bool.false_and, Bool.or_true, Bool.true_or, Bool.or_false, Bool.false_or, Bool.not_not, es0, eo]
    refine G.join2 (σ := Value × List TSeen × Int × MemS) (fun z => z.1) (fun z => i64 z.2.2.1) (fun z => sl tSeenE z.1 z.2.1 :: sl tCellE u l :: ob MemR c z.2.2.2 :: L)
      (fun z => z.2.1.length ≤ 1 ∧ z.2.2.2.l.length = 8 ∧ z.2.2.2.w = List.replicate 64 0 ∧ ∃ y m', alN 299 (comNew 3 (IntKind.wrap .i64 (sp.tmod 5)) 1 z.2.1 l (marked (hasStripe l 8 1) 16), z.2.2.2) = (y, m') ∧ y.pat.fin = 5 ∧ y.pat.by_ = z.2.2.1 ∧ y.writing = false ∧ m'.w = z.2.2.2.w ∧ m'.l = z.2.2.2.l) ?_ (fun J2 hJ2 => ?_)
    · rintro ⟨v, ss, want, m⟩ ⟨h1, h2, h3, y, m', h4, h5, h6, h7, h8, h9⟩
      simp only at h1 h2 h3 h4 h5 h6 h7 h8 h9 ⊢
      refine s_mem_Mem_Locks (m := m) (by omega) fun u1 hu1 => ?_
      try simp (maxSteps := 2000000) only [↓RG, RP, true_and, and_true, beq_true, beq_false, Bool.true_beq, Bool.false_beq, BEq.rfl, Int.reduceEq, Int.reduceLT, Int.reduceLE, Nat.reduceEqDiff, decide_true, decide_false, Bool.not_true, Bool.not_false, Bool.and_true, Bool.true_and, Bool.and_false, Bool.false_and, Bool.or_true, Bool.true_or, Bool.or_false, Bool.false_or, Bool.not_not]
      refine s_commit_New (seen := ss) (cells := l) (by omega) (by omega) fun b => ?_
      try simp (maxSteps := 2000000) only [↓RG, RP, true_and, and_true, beq_true, beq_false, Bool.true_beq, Bool.false_beq, BEq.rfl, Int.reduceEq, Int.reduceLT, Int.reduceLE, Nat.reduceEqDiff, decide_true, decide_false, Bool.not_true, Bool.not_false, Bool.and_true, Bool.true_and, Bool.and_false, Bool.false_and, Bool.or_true, Bool.true_or, Bool.or_false, Bool.false_or, Bool.not_not]
      refine s_law25_alone (x := comNew 3 (IntKind.wrap .i64 (sp.tmod 5)) 1 ss l (marked (hasStripe l 8 1) 16)) (m := m) (comNew_ok (by omega) (by omega)) (by rw [h4]; simp only; omega) ?_
      rw [h4]
      try simp (maxSteps := 2000000) only [↓RG, RP, true_and, and_true, beq_true, beq_false, Bool.true_beq, Bool.false_beq, BEq.rfl, Int.reduceEq, Int.reduceLT, Int.reduceLE, Nat.reduceEqDiff, decide_true, decide_false, Bool.not_true, Bool.not_false, Bool.and_true, Bool.true_and, Bool.and_false, Bool.false_and, Bool.or_true, Bool.true_or, Bool.or_false, Bool.false_or, Bool.not_not]
      have h10 : m'.w = List.replicate 64 0 := by rw [h8, h3]
      have h11 : m'.w.length = 64 := by rw [h10]; rfl
      have h12 : (m'.w.length : Int) = 64 := by omega
      refine s_mem_Mem_Words (m := m') (by omega) fun u2 hu2 => ?_
      refine G.loopc1 (fun k : Nat => i64 k) (fun k => k ≤ 64) (fun k => 64 - k) 0 rfl (by omega) ?_
      intro i hi J3 hJ3
      try simp (maxSteps := 2000000) only [↓RG, RP, true_and, and_true, beq_true, beq_false, Bool.true_beq, Bool.false_beq, BEq.rfl, Int.reduceEq, Int.reduceLT, Int.reduceLE, Nat.reduceEqDiff, decide_true, decide_false, Bool.not_true, Bool.not_false, Bool.and_true, Bool.true_and, Bool.and_false, Bool.false_and, Bool.or_true, Bool.true_or, Bool.or_false, Bool.false_or, Bool.not_not]
      refine G.cond (fun h => ?_) (fun h => ?_)
      · have hi2 : i < 64 := by simp at h; omega
        have e : Elem m'.w i 0 := ⟨by rw [h10, List.getElem?_replicate, if_pos hi2]⟩
        try simp (maxSteps := 2000000) only [↓RG, RP, true_and, and_true, beq_true, beq_false, Bool.true_beq, Bool.false_beq, BEq.rfl, Int.reduceEq, Int.reduceLT, Int.reduceLE, Nat.reduceEqDiff, decide_true, decide_false, Bool.not_true, Bool.not_false, Bool.and_true, Bool.true_and, Bool.and_false, Bool.false_and, Bool.or_true, Bool.true_or, Bool.or_false, Bool.false_or, Bool.not_not]
        rw [wsucc (by omega)]
        exact hJ3 (i + 1) (by omega) (by omega)
      · repeat' (first | (with_reducible refine G.joini0 ?_) | (with_reducible refine G.joini1 ?_) | (with_reducible refine G.drew ?_) | (simp (maxSteps := 2000000) only [↓RG, RP, true_and, and_true, beq_true, beq_false, Bool.true_beq, Bool.false_beq, BEq.rfl, Int.reduceEq, Int.reduceLT, Int.reduceLE, Nat.reduceEqDiff, decide_true, decide_false, Bool.not_true, Bool.not_false, Bool.and_true, Bool.true_and, Bool.and_false, Bool.false_and, Bool.or_true, Bool.true_or, Bool.or_false, Bool.false_or, Bool.not_not, h12]))
        refine s_commit_Commit_End (x := y) ?_
        rw [h5]
        repeat' (first | (with_reducible refine G.joini0 ?_) | (with_reducible refine G.joini1 ?_) | (with_reducible refine G.drew ?_) | (simp (maxSteps := 2000000) only [↓RG, RP, true_and, and_true, beq_true, beq_false, Bool.true_beq, Bool.false_beq, BEq.rfl, Int.reduceEq, Int.reduceLT, Int.reduceLE, Nat.reduceEqDiff, decide_true, decide_false, Bool.not_true, Bool.not_false, Bool.and_true, Bool.true_and, Bool.and_false, Bool.false_and, Bool.or_true, Bool.true_or, Bool.or_false, Bool.false_or, Bool.not_not]))
        refine s_commit_Commit_By (x := y) ?_
        rw [h6]
        repeat' (first | (with_reducible refine G.joini0 ?_) | (with_reducible refine G.joini1 ?_) | (with_reducible refine G.drew ?_) | (simp (maxSteps := 2000000) only [↓RG, RP, true_and, and_true, beq_true, beq_false, Bool.true_beq, Bool.false_beq, BEq.rfl, Int.reduceEq, Int.reduceLT, Int.reduceLE, Nat.reduceEqDiff, decide_true, decide_false, Bool.not_true, Bool.not_false, Bool.and_true, Bool.true_and, Bool.and_false, Bool.false_and, Bool.or_true, Bool.true_or, Bool.or_false, Bool.false_or, Bool.not_not]))
        refine s_commit_Commit_Stamp (x := y) ?_
        rw [h7, if_neg (by decide)]
        repeat' (first | (with_reducible refine G.joini0 ?_) | (with_reducible refine G.joini1 ?_) | (with_reducible refine G.drew ?_) | (simp (maxSteps := 2000000) only [↓RG, RP, true_and, and_true, beq_true, beq_false, Bool.true_beq, Bool.false_beq, BEq.rfl, Int.reduceEq, Int.reduceLT, Int.reduceLE, Nat.reduceEqDiff, decide_true, decide_false, Bool.not_true, Bool.not_false, Bool.and_true, Bool.true_and, Bool.and_false, Bool.false_and, Bool.or_true, Bool.true_or, Bool.or_false, Bool.false_or, Bool.not_not]))
        refine s_mem_Mem_Locks (m := m') (by rw [h9]; omega) fun u3 hu3 => ?_
        rw [h9]
        repeat' (first | (with_reducible refine G.joini0 ?_) | (with_reducible refine G.joini1 ?_) | (with_reducible refine G.drew ?_) | (simp (maxSteps := 2000000) only [↓RG, RP, true_and, and_true, beq_true, beq_false, Bool.true_beq, Bool.false_beq, BEq.rfl, Int.reduceEq, Int.reduceLT, Int.reduceLE, Nat.reduceEqDiff, decide_true, decide_false, Bool.not_true, Bool.not_false, Bool.and_true, Bool.true_and, Bool.and_false, Bool.false_and, Bool.or_true, Bool.true_or, Bool.or_false, Bool.false_or, Bool.not_not]))
        refine s_book_Same_api_Lock (xs := m.l) (ys := m.l) (by omega) ?_
        repeat' (first | (with_reducible refine G.joini0 ?_) | (with_reducible refine G.joini1 ?_) | (with_reducible refine G.drew ?_) | (simp (maxSteps := 2000000) only [↓RG, RP, true_and, and_true, beq_true, beq_false, Bool.true_beq, Bool.false_beq, BEq.rfl, Int.reduceEq, Int.reduceLT, Int.reduceLE, Nat.reduceEqDiff, decide_true, decide_false, Bool.not_true, Bool.not_false, Bool.and_true, Bool.true_and, Bool.and_false, Bool.false_and, Bool.or_true, Bool.true_or, Bool.or_false, Bool.false_or, Bool.not_not]))
        exact hK.sub
    · cases how
      · have hne : NeZ ((l.length : Nat) : Int) := ⟨by omega⟩
        obtain ⟨j, ej, hj⟩ : ∃ j : Nat, (IntKind.wrap .i64 at_).tmod (l.length : Int) = (j : Int) ∧ j < l.length := by
          rw [wi64 (n := at_) (by omega) (by omega), Int.tmod_eq_emod_of_nonneg g1.1]
          have t1 := Int.emod_nonneg at_ (show (l.length : Int) ≠ 0 by omega)
          have t2 := Int.emod_lt_of_pos at_ (show 0 < (l.length : Int) by omega)
          exact ⟨(at_ % l.length).toNat, by omega, by omega⟩
        have e := elem_of hj
        have hp := hin _ (List.getElem_mem hj)
        have hst : 0 ≤ stripeOf l[j].place 8 1 := by
          unfold stripeOf
          rw [if_neg (by omega), show held 1 1 16 = 1 by decide, show held 8 1 16 = 8 by decide, Int.tdiv_one, wi64 (by omega) (by omega)]
          exact Int.tmod_nonneg _ (by omega)
        have hmem := stripes_ne (List.getElem_mem hj) hst
        obtain ⟨s, es, _⟩ := stripeOf_lt hst
        rw [es] at hmem
        have hs8 := hS _ hmem
        simp only [Int.toNat_natCast] at hs8
        try simp (maxSteps := 2000000) only [↓RG, RP, true_and, and_true, beq_true, beq_false, Bool.true_beq, Bool.false_beq, BEq.rfl, Int.reduceEq, Int.reduceLT, Int.reduceLE, Nat.reduceEqDiff, decide_true, decide_false, Bool.not_true, Bool.not_false, Bool.and_true, Bool.true_and, Bool.and_false, Bool.false_and, Bool.or_true, Bool.true_or, Bool.or_false, Bool.false_or, Bool.not_not]
        rw [ej]
        try simp (maxSteps := 2000000) only [↓RG, RP, true_and, and_true, beq_true, beq_false, Bool.true_beq, Bool.false_beq, BEq.rfl, Int.reduceEq, Int.reduceLT, Int.reduceLE, Nat.reduceEqDiff, decide_true, decide_false, Bool.not_true, Bool.not_false, Bool.and_true, Bool.true_and, Bool.and_false, Bool.false_and, Bool.or_true, Bool.true_or, Bool.or_false, Bool.false_or, Bool.not_not]
        refine s_ref1_Of ?_
        rw [es]
        try simp (maxSteps := 2000000) only [↓RG, RP, true_and, and_true, beq_true, beq_false, Bool.true_beq, Bool.false_beq, BEq.rfl, Int.reduceEq, Int.reduceLT, Int.reduceLE, Nat.reduceEqDiff, decide_true, decide_false, Bool.not_true, Bool.not_false, Bool.and_true, Bool.true_and, Bool.and_false, Bool.false_and, Bool.or_true, Bool.true_or, Bool.or_false, Bool.false_or, Bool.not_not]
        refine s_mem_Mem_Do (m := m0) (o := ⟨5, s, 0, 0, zeroLock, ⟨1, true, o⟩⟩) ?_
        have hil : isLock ⟨1, true, o⟩ = true := by unfold isLock; simp; omega
        have hml : m0.l.length = 8 := by rw [ml]; rfl
        have hst2 : storeRes m0.l (s : Int) ⟨1, true, o⟩ = (m0.l.set s ⟨1, true, o⟩, 0) := by unfold storeRes mayErr; rw [inLen_nat (by omega), hil]; simp
        have e1 : (memDo m0 ⟨5, s, 0, 0, zeroLock, ⟨1, true, o⟩⟩).1.l = m0.l.set s ⟨1, true, o⟩ := by rw [memDo_l, memStep_5 rfl]; simp only [hst2]
        have e2 : (memDo m0 ⟨5, s, 0, 0, zeroLock, ⟨1, true, o⟩⟩).1.w = m0.w := by rw [memDo_w, memStep_5 rfl]
        generalize (memDo m0 ⟨5, s, 0, 0, zeroLock, ⟨1, true, o⟩⟩).1 = m1 at *
        refine G.nilsl tSeenE ?_
        have hall : ∀ j, j < 8 → m1.l.getD j zeroLock = if s = j then ⟨1, true, o⟩ else zeroLock := fun j hj => by
          rw [e1, getD_set _ _ _ _ _ (by omega), ml, List.getD_eq_getElem?_getD, List.getElem?_replicate, if_pos hj]
          rfl
        exact (hJ2 (.slice none 0 0, [], o, m1) ⟨by simp, by rw [e1]; simp [hml], by rw [e2, mw], lets_held (s := s) (o := o) (row8 hS hr ⟨by omega, by omega⟩ (by rw [e1]; simp [hml]) (fun z hz => by
          rw [e1, ml] at hz
          rcases List.mem_or_eq_of_mem_set hz with h1 | h1
          · rw [List.eq_of_mem_replicate h1]; decide
          · rw [h1]; exact hil)) (by omega) hmem ho.2 (fun i h hne => by
          have := hS _ (List.getElem_mem h)
          rw [hall _ this.2, if_neg (by omega)]; rfl) (by rw [hall s (by omega), if_pos rfl])⟩).sub
      · try simp (maxSteps := 2000000) only [↓RG, RP, true_and, and_true, beq_true, beq_false, Bool.true_beq, Bool.false_beq, BEq.rfl, Int.reduceEq, Int.reduceLT, Int.reduceLE, Nat.reduceEqDiff, decide_true, decide_false, Bool.not_true, Bool.not_false, Bool.and_true, Bool.true_and, Bool.and_false, Bool.false_and, Bool.or_true, Bool.true_or, Bool.or_false, Bool.false_or, Bool.not_not]
        refine s_mem_Mem_Do (m := m0) (o := ⟨5, s0, 0, 0, zeroLock, ⟨2, false, 0⟩⟩) ?_
        have hml : m0.l.length = 8 := by rw [ml]; rfl
        have hst2 : storeRes m0.l (s0 : Int) ⟨2, false, 0⟩ = (m0.l.set s0 ⟨2, false, 0⟩, 0) := by unfold storeRes mayErr; rw [inLen_nat (by omega), show isLock ⟨2, false, 0⟩ = true by decide]; simp
        have e1 : (memDo m0 ⟨5, s0, 0, 0, zeroLock, ⟨2, false, 0⟩⟩).1.l = m0.l.set s0 ⟨2, false, 0⟩ := by rw [memDo_l, memStep_5 rfl]; simp only [hst2]
        have e2 : (memDo m0 ⟨5, s0, 0, 0, zeroLock, ⟨2, false, 0⟩⟩).1.w = m0.w := by rw [memDo_w, memStep_5 rfl]
        have e3 : (memDo m0 ⟨5, s0, 0, 0, zeroLock, ⟨2, false, 0⟩⟩).1.n = m0.n := by rw [memDo_n, memStep_5 rfl]
        generalize (memDo m0 ⟨5, s0, 0, 0, zeroLock, ⟨2, false, 0⟩⟩).1 = m1 at *
        try simp (maxSteps := 2000000) only [↓RG, RP, true_and, and_true, beq_true, beq_false, Bool.true_beq, Bool.false_beq, BEq.rfl, Int.reduceEq, Int.reduceLT, Int.reduceLE, Nat.reduceEqDiff, decide_true, decide_false, Bool.not_true, Bool.not_false, Bool.and_true, Bool.true_and, Bool.and_false, Bool.false_and, Bool.or_true, Bool.true_or, Bool.or_false, Bool.false_or, Bool.not_not]
        refine G.build tSeenE [⟨s0, 1⟩] rfl (by simp) rfl fun v hv => ?_
        try simp (maxSteps := 2000000) only [↓RG, RP, true_and, and_true, beq_true, beq_false, Bool.true_beq, Bool.false_beq, BEq.rfl, Int.reduceEq, Int.reduceLT, Int.reduceLE, Nat.reduceEqDiff, decide_true, decide_false, Bool.not_true, Bool.not_false, Bool.and_true, Bool.true_and, Bool.and_false, Bool.false_and, Bool.or_true, Bool.true_or, Bool.or_false, Bool.false_or, Bool.not_not]
        refine G.nilsl tSeenE ?_
        refine G.append (xs := []) (ys := [⟨s0, 1⟩]) (by simp) (by simp [maxLen]) fun v2 hv2 => ?_
        rw [List.nil_append]
        have hall : ∀ j, j < 8 → m1.l.getD j zeroLock = if s0 = j then ⟨2, false, 0⟩ else zeroLock := fun j hj => by
          rw [e1, getD_set _ _ _ _ _ (by omega), ml, List.getD_eq_getElem?_getD, List.getElem?_replicate, if_pos hj]
          rfl
        exact (hJ2 (v2, [⟨s0, 1⟩], -1, m1) ⟨by simp, by rw [e1]; simp [hml], by rw [e2, mw], lets_seen (row8 hS hr ⟨by omega, by omega⟩ (by rw [e1]; simp [hml]) (fun z hz => by
          rw [e1, ml] at hz
          rcases List.mem_or_eq_of_mem_set hz with h1 | h1
          · rw [List.eq_of_mem_replicate h1]; decide
          · rw [h1]; decide)) (by omega) (by rw [e1]; simp [hml]; omega) (by rw [e3, mn]) (fun i h => by
          have := hS _ (List.getElem_mem h)
          rw [hall _ this.2]; split <;> rfl) (by rw [hall s0 hs0, if_pos rfl])⟩).sub

set_option maxHeartbeats 1000000 in
theorem s_law25_CommitClock {l0 : Value} {qs : List TCell} {back : Int} [a : Arg w0 l0 tCellE qs] (hn1 : inK .u8 back) (hK : G w0 L (K (.bool true))) :
    G w0 L (CP Try.prog Fn.law25_CommitClock [l0, .int .u8 back] K) := by
  have g1 := inK_u8 hn1
  obtain ⟨d, ed, ed2, hd⟩ : ∃ d : Int, back.tmod 3 = d ∧ IntKind.wrap .u64 d = d ∧ 0 ≤ d ∧ d < 3 := by
    rw [Int.tmod_eq_emod_of_nonneg g1.1]
    exact ⟨back % 3, rfl, wu64 (by omega) (by omega), by omega, by omega⟩
  have w1 : IntKind.wrap .u64 (4611686018427387903 - d) = 4611686018427387903 - d := wu64 (by omega) (by omega)
  have w2 : IntKind.wrap .u64 (4611686018427387904 - d) = 4611686018427387904 - d := wu64 (by omega) (by omega)
  refine C_law25_CommitClock ?_
  unfold S_law25_CommitClock
  refine s_law25_CommitRuns ?_
  try simp (maxSteps := 2000000) only [fuse_and, fuse_or, fuse_step, fuse_pair, fuse_in, andP_true]
  try simp (maxSteps := 2000000) only [↓RG, RP, true_and, and_true, beq_true, beq_false, Bool.true_beq, Bool.false_beq, BEq.rfl, Int.reduceEq, Int.reduceLT, Int.reduceLE, Nat.reduceEqDiff, decide_true, decide_false, Bool.not_true, Bool.not_false, Bool.and_true, Bool.true_and, Bool.and_false, Bool.false_and, Bool.or_true, Bool.true_or, Bool.or_false, Bool.false_or, Bool.not_not, ed, ed2, w1]
  refine s_mem_New (s := ⟨64, 8, 2, 1, 4611686018427387903 - d⟩) fun c => ?_
  obtain ⟨m0, hm0, mw, ml, mn⟩ : ∃ m0, newMem ⟨64, 8, 2, 1, 4611686018427387903 - d⟩ = m0 ∧ m0.w = List.replicate 64 0 ∧ m0.l = List.replicate 8 zeroLock ∧ m0.n = 4611686018427387903 - d := ⟨_, rfl, rfl, rfl, by
    show (heldShape _).start = _
    unfold heldShape
    simp only
    rw [if_neg (by omega)]⟩
  rw [hm0]
  try simp (maxSteps := 2000000) only [↓RG, RP, true_and, and_true, beq_true, beq_false, Bool.true_beq, Bool.false_beq, BEq.rfl, Int.reduceEq, Int.reduceLT, Int.reduceLE, Nat.reduceEqDiff, decide_true, decide_false, Bool.not_true, Bool.not_false, Bool.and_true, Bool.true_and, Bool.and_false, Bool.false_and, Bool.or_true, Bool.true_or, Bool.or_false, Bool.false_or, Bool.not_not]
  refine G.nilsl tCellE ?_
  refine G.loop2 (σ := Value × List TCell × Nat) (fun z => z.1) (fun z => i64 z.2.2) (fun z => sl tCellE z.1 z.2.1 :: ob MemR c m0 :: L) (fun z => z.2.2 ≤ 9 ∧ z.2.1.length ≤ z.2.2 ∧ Cells z.1 [z.1] ∧ ∀ c ∈ z.2.1, 1 ≤ c.place ∧ c.place < 64) (fun z => 9 - z.2.2) (.slice none 0 0, [], 0) rfl rfl rfl ⟨by simp, by simp, cells_slice, by simp⟩ ?_
  rintro ⟨u, l, k⟩ ⟨hk, hl, hu, hin⟩ J hJ
  simp only at hk hl hu hin hJ ⊢
  try simp (maxSteps := 2000000) only [↓RG, RP, true_and, and_true, beq_true, beq_false, Bool.true_beq, Bool.false_beq, BEq.rfl, Int.reduceEq, Int.reduceLT, Int.reduceLE, Nat.reduceEqDiff, decide_true, decide_false, Bool.not_true, Bool.not_false, Bool.and_true, Bool.true_and, Bool.and_false, Bool.false_and, Bool.or_true, Bool.true_or, Bool.or_false, Bool.false_or, Bool.not_not]
  refine G.cond (fun h => ?_) (fun h => ?_)
  · have hk2 : k < qs.length ∧ k < 9 := by simp at h; omega
    have e := elem_of hk2.1
    have hwi := within_le (n := qs[k].place) (show (1 : Int) ≤ 63 by omega)
    have hple := fun x => putC_le (cs := l) (a := within qs[k].place 1 63) (x := x)
    repeat' (first | (with_reducible refine G.joini0 ?_) | (with_reducible refine G.joini1 ?_) | (with_reducible refine G.drew ?_) | (simp (maxSteps := 2000000) only [↓RG, RP, true_and, and_true, beq_true, beq_false, Bool.true_beq, Bool.false_beq, BEq.rfl, Int.reduceEq, Int.reduceLT, Int.reduceLE, Nat.reduceEqDiff, decide_true, decide_false, Bool.not_true, Bool.not_false, Bool.and_true, Bool.true_and, Bool.and_false, Bool.false_and, Bool.or_true, Bool.true_or, Bool.or_false, Bool.false_or, Bool.not_not]))
    refine s_book_Within (by omega) (by omega) (by omega) (by omega) ?_
    repeat' (first | (with_reducible refine G.joini0 ?_) | (with_reducible refine G.joini1 ?_) | (with_reducible refine G.drew ?_) | (simp (maxSteps := 2000000) only [↓RG, RP, true_and, and_true, beq_true, beq_false, Bool.true_beq, Bool.false_beq, BEq.rfl, Int.reduceEq, Int.reduceLT, Int.reduceLE, Nat.reduceEqDiff, decide_true, decide_false, Bool.not_true, Bool.not_false, Bool.and_true, Bool.true_and, Bool.and_false, Bool.false_and, Bool.or_true, Bool.true_or, Bool.or_false, Bool.false_or, Bool.not_not]))
    refine s_ref7_Put (cs := l) (by omega) fun u2 hu2 => ?_
    repeat' (first | (with_reducible refine G.joini0 ?_) | (with_reducible refine G.joini1 ?_) | (with_reducible refine G.drew ?_) | (simp (maxSteps := 2000000) only [↓RG, RP, true_and, and_true, beq_true, beq_false, Bool.true_beq, Bool.false_beq, BEq.rfl, Int.reduceEq, Int.reduceLT, Int.reduceLE, Nat.reduceEqDiff, decide_true, decide_false, Bool.not_true, Bool.not_false, Bool.and_true, Bool.true_and, Bool.and_false, Bool.false_and, Bool.or_true, Bool.true_or, Bool.or_false, Bool.false_or, Bool.not_not]))
    rw [wsucc (by omega)]
    have hp2 := hple (IntKind.wrap .u64 (qs[k].word.tmod 9 + 1))
    exact (hJ (u2, putC l (within qs[k].place 1 63) (IntKind.wrap .u64 (qs[k].word.tmod 9 + 1)), k + 1) ⟨hk2.2, by simp only; omega, hu2, fun d hd => by
      rcases mem_putC hd with h1 | h1
      · exact hin d h1
      · omega⟩ (by simp; omega)).sub
  · have hml : m0.l.length = 8 := by rw [ml]; rfl
    have hr := marked_rising (f := hasStripe l 8 2) (m := 16)
    have hS := stripes8 (cs := l) (wide := 2)
    have hSl := marked_few (f := hasStripe l 8 2) (m := 16)
    have hrow : RowOk m0.l (marked (hasStripe l 8 2) 16) 0 := row8 hS hr ⟨by omega, by omega⟩ hml (fun z hz => by rw [ml] at hz; rw [List.eq_of_mem_replicate hz]; decide)
    have hfree : ∀ i (h : i < (marked (hasStripe l 8 2) 16).length), (m0.l.getD (marked (hasStripe l 8 2) 16)[i].toNat zeroLock).held = false := fun i h => by
      have := (hS _ (List.getElem_mem h)).2
      rw [ml, List.getD_eq_getElem?_getD, List.getElem?_replicate, if_pos this]; rfl
    refine s_mem_Mem_Locks (m := m0) (by omega) fun u1 hu1 => ?_
    refine s_mem_Mem_Now (m := m0) ?_
    try simp (maxSteps := 2000000) only [↓RG, RP, true_and, and_true, beq_true, beq_false, Bool.true_beq, Bool.false_beq, BEq.rfl, Int.reduceEq, Int.reduceLT, Int.reduceLE, Nat.reduceEqDiff, decide_true, decide_false, Bool.not_true, Bool.not_false, Bool.and_true, Bool.true_and, Bool.and_false, Bool.false_and, Bool.or_true, Bool.true_or, Bool.or_false, Bool.false_or, Bool.not_not]
    refine G.nilsl tSeenE ?_
    refine s_commit_New (seen := []) (cells := l) (by simp) (by omega) fun b => ?_
    try simp (maxSteps := 2000000) only [↓RG, RP, true_and, and_true, beq_true, beq_false, Bool.true_beq, Bool.false_beq, BEq.rfl, Int.reduceEq, Int.reduceLT, Int.reduceLE, Nat.reduceEqDiff, decide_true, decide_false, Bool.not_true, Bool.not_false, Bool.and_true, Bool.true_and, Bool.and_false, Bool.false_and, Bool.or_true, Bool.true_or, Bool.or_false, Bool.false_or, Bool.not_not]
    by_cases hd0 : 0 < d
    · obtain ⟨y, m', h4, h5, h6⟩ := clock_done (m0 := m0) (sp := 1) (seen := []) (cells := l) hrow (by omega) (by omega) (by omega) hfree (by omega) (by rw [mw]; exact hin)
      refine s_law25_alone (x := comNew 0 1 m0.n [] l (marked (hasStripe l 8 2) 16)) (m := m0) (comNew_ok (by simp) (by omega)) (by rw [h4]; simp only; omega) ?_
      rw [h4]
      try simp (maxSteps := 2000000) only [↓RG, RP, true_and, and_true, beq_true, beq_false, Bool.true_beq, Bool.false_beq, BEq.rfl, Int.reduceEq, Int.reduceLT, Int.reduceLE, Nat.reduceEqDiff, decide_true, decide_false, Bool.not_true, Bool.not_false, Bool.and_true, Bool.true_and, Bool.and_false, Bool.false_and, Bool.or_true, Bool.true_or, Bool.or_false, Bool.false_or, Bool.not_not, ed, hd0]
      refine s_commit_Commit_End (x := y) ?_
      rw [h5]
      repeat' (first | (with_reducible refine G.joini0 ?_) | (with_reducible refine G.joini1 ?_) | (with_reducible refine G.drew ?_) | (simp (maxSteps := 2000000) only [↓RG, RP, true_and, and_true, beq_true, beq_false, Bool.true_beq, Bool.false_beq, BEq.rfl, Int.reduceEq, Int.reduceLT, Int.reduceLE, Nat.reduceEqDiff, decide_true, decide_false, Bool.not_true, Bool.not_false, Bool.and_true, Bool.true_and, Bool.and_false, Bool.false_and, Bool.or_true, Bool.true_or, Bool.or_false, Bool.false_or, Bool.not_not]))
      refine s_mem_Mem_Now (m := m') ?_
      rw [h6, mn]
      have e9 : 4611686018427387903 - d + 1 = 4611686018427387904 - d := by omega
      repeat' (first | (with_reducible refine G.joini0 ?_) | (with_reducible refine G.joini1 ?_) | (with_reducible refine G.drew ?_) | (simp (maxSteps := 2000000) only [↓RG, RP, true_and, and_true, beq_true, beq_false, Bool.true_beq, Bool.false_beq, BEq.rfl, Int.reduceEq, Int.reduceLT, Int.reduceLE, Nat.reduceEqDiff, decide_true, decide_false, Bool.not_true, Bool.not_false, Bool.and_true, Bool.true_and, Bool.and_false, Bool.false_and, Bool.or_true, Bool.true_or, Bool.or_false, Bool.false_or, Bool.not_not, ed, ed2, w2, e9]))
      exact hK.sub
    · obtain ⟨y, m', h4, h5, h6, h7, h8, h9, h13⟩ := clock_end (m0 := m0) (sp := 1) (st := m0.n) (seen := []) (cells := l) hrow (by omega) (by omega) hfree
      refine s_law25_alone (x := comNew 0 1 m0.n [] l (marked (hasStripe l 8 2) 16)) (m := m0) (comNew_ok (by simp) (by omega)) (by rw [h4]; simp only; omega) ?_
      rw [h4]
      try simp (maxSteps := 2000000) only [↓RG, RP, true_and, and_true, beq_true, beq_false, Bool.true_beq, Bool.false_beq, BEq.rfl, Int.reduceEq, Int.reduceLT, Int.reduceLE, Nat.reduceEqDiff, decide_true, decide_false, Bool.not_true, Bool.not_false, Bool.and_true, Bool.true_and, Bool.and_false, Bool.false_and, Bool.or_true, Bool.true_or, Bool.or_false, Bool.false_or, Bool.not_not, ed, hd0]
      have h10 : m'.w = List.replicate 64 0 := by rw [h8, mw]
      have h11 : m'.w.length = 64 := by rw [h10]; rfl
      refine s_mem_Mem_Words (m := m') (by omega) fun u2 hu2 => ?_
      refine G.loopc1 (fun k : Nat => i64 k) (fun k => k ≤ 64) (fun k => 64 - k) 0 rfl (by omega) ?_
      intro i hi J3 hJ3
      try simp (maxSteps := 2000000) only [↓RG, RP, true_and, and_true, beq_true, beq_false, Bool.true_beq, Bool.false_beq, BEq.rfl, Int.reduceEq, Int.reduceLT, Int.reduceLE, Nat.reduceEqDiff, decide_true, decide_false, Bool.not_true, Bool.not_false, Bool.and_true, Bool.true_and, Bool.and_false, Bool.false_and, Bool.or_true, Bool.true_or, Bool.or_false, Bool.false_or, Bool.not_not]
      refine G.cond (fun h => ?_) (fun h => ?_)
      · have hi2 : i < 64 := by simp at h; omega
        have e : Elem m'.w i 0 := ⟨by rw [h10, List.getElem?_replicate, if_pos hi2]⟩
        try simp (maxSteps := 2000000) only [↓RG, RP, true_and, and_true, beq_true, beq_false, Bool.true_beq, Bool.false_beq, BEq.rfl, Int.reduceEq, Int.reduceLT, Int.reduceLE, Nat.reduceEqDiff, decide_true, decide_false, Bool.not_true, Bool.not_false, Bool.and_true, Bool.true_and, Bool.and_false, Bool.false_and, Bool.or_true, Bool.true_or, Bool.or_false, Bool.false_or, Bool.not_not]
        rw [wsucc (by omega)]
        exact hJ3 (i + 1) (by omega) (by omega)
      · refine s_commit_Commit_End (x := y) ?_
        rw [h5]
        repeat' (first | (with_reducible refine G.joini0 ?_) | (with_reducible refine G.joini1 ?_) | (with_reducible refine G.drew ?_) | (simp (maxSteps := 2000000) only [↓RG, RP, true_and, and_true, beq_true, beq_false, Bool.true_beq, Bool.false_beq, BEq.rfl, Int.reduceEq, Int.reduceLT, Int.reduceLE, Nat.reduceEqDiff, decide_true, decide_false, Bool.not_true, Bool.not_false, Bool.and_true, Bool.true_and, Bool.and_false, Bool.false_and, Bool.or_true, Bool.true_or, Bool.or_false, Bool.false_or, Bool.not_not]))
        refine s_commit_Commit_Err (x := y) ?_
        rw [h6]
        repeat' (first | (with_reducible refine G.joini0 ?_) | (with_reducible refine G.joini1 ?_) | (with_reducible refine G.drew ?_) | (simp (maxSteps := 2000000) only [↓RG, RP, true_and, and_true, beq_true, beq_false, Bool.true_beq, Bool.false_beq, BEq.rfl, Int.reduceEq, Int.reduceLT, Int.reduceLE, Nat.reduceEqDiff, decide_true, decide_false, Bool.not_true, Bool.not_false, Bool.and_true, Bool.true_and, Bool.and_false, Bool.false_and, Bool.or_true, Bool.true_or, Bool.or_false, Bool.false_or, Bool.not_not]))
        refine s_commit_Commit_Stamp (x := y) ?_
        rw [h7, if_neg (by decide)]
        repeat' (first | (with_reducible refine G.joini0 ?_) | (with_reducible refine G.joini1 ?_) | (with_reducible refine G.drew ?_) | (simp (maxSteps := 2000000) only [↓RG, RP, true_and, and_true, beq_true, beq_false, Bool.true_beq, Bool.false_beq, BEq.rfl, Int.reduceEq, Int.reduceLT, Int.reduceLE, Nat.reduceEqDiff, decide_true, decide_false, Bool.not_true, Bool.not_false, Bool.and_true, Bool.true_and, Bool.and_false, Bool.false_and, Bool.or_true, Bool.true_or, Bool.or_false, Bool.false_or, Bool.not_not]))
        refine s_mem_Mem_Locks (m := m') (by rw [h9]; omega) fun u3 hu3 => ?_
        rw [h9]
        repeat' (first | (with_reducible refine G.joini0 ?_) | (with_reducible refine G.joini1 ?_) | (with_reducible refine G.drew ?_) | (simp (maxSteps := 2000000) only [↓RG, RP, true_and, and_true, beq_true, beq_false, Bool.true_beq, Bool.false_beq, BEq.rfl, Int.reduceEq, Int.reduceLT, Int.reduceLE, Nat.reduceEqDiff, decide_true, decide_false, Bool.not_true, Bool.not_false, Bool.and_true, Bool.true_and, Bool.and_false, Bool.false_and, Bool.or_true, Bool.true_or, Bool.or_false, Bool.false_or, Bool.not_not]))
        refine s_book_Same_api_Lock (xs := m0.l) (ys := m0.l) (by omega) ?_
        repeat' (first | (with_reducible refine G.joini0 ?_) | (with_reducible refine G.joini1 ?_) | (with_reducible refine G.drew ?_) | (simp (maxSteps := 2000000) only [↓RG, RP, true_and, and_true, beq_true, beq_false, Bool.true_beq, Bool.false_beq, BEq.rfl, Int.reduceEq, Int.reduceLT, Int.reduceLE, Nat.reduceEqDiff, decide_true, decide_false, Bool.not_true, Bool.not_false, Bool.and_true, Bool.true_and, Bool.and_false, Bool.false_and, Bool.or_true, Bool.true_or, Bool.or_false, Bool.false_or, Bool.not_not]))
        refine s_mem_Mem_Now (m := m') ?_
        have e9 : m'.n = 4611686018427387903 := by rw [h13, mn]; omega
        rw [e9]
        repeat' (first | (with_reducible refine G.joini0 ?_) | (with_reducible refine G.joini1 ?_) | (with_reducible refine G.drew ?_) | (simp (maxSteps := 2000000) only [↓RG, RP, true_and, and_true, beq_true, beq_false, Bool.true_beq, Bool.false_beq, BEq.rfl, Int.reduceEq, Int.reduceLT, Int.reduceLE, Nat.reduceEqDiff, decide_true, decide_false, Bool.not_true, Bool.not_false, Bool.and_true, Bool.true_and, Bool.and_false, Bool.false_and, Bool.or_true, Bool.true_or, Bool.or_false, Bool.false_or, Bool.not_not]))
        exact hK.sub

end
end Go.Proofs.Ytokbiojkpldfeaa.S
