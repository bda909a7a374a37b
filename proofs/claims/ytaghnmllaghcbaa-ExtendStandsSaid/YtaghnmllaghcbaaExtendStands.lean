/-
  CHAPTER 24: on a memory that nobody touches meanwhile.
-/
import Derived.Test.YtaghnmllaghcbaaStands
import Derived.Test.YtaghnmllaghcbaaExtendLaw
namespace Go.Proofs.Ytaghnmllaghcbaa.S
open Go Go.Proofs
set_option linter.unusedVariables false
set_option linter.unusedSimpArgs false

section
variable {w0 : World} {L M : List Asn} {K : KV} {F : World → Prop} {C : Asn → List Asn} {b : Nat}

/-- the memory ahead of the extend: no lock is held but one -/
structure StandMem (m : MemS) (n0 : Int) (hd o : Int) : Prop where
  l : m.l.length = 16
  n : m.n = n0
  held : ∀ (j : Nat) l, m.l[j]? = some l → l.held = true → (j : Int) = hd ∧ hd < 16 ∧ l.owner = o

theorem StandMem.free {m : MemS} {n0 hd o : Int} {i v : Int} {u : TLock} (h : StandMem m n0 hd o) (h0 : 0 ≤ i) (h1 : i < 16) (hv : v < 4611686018427387904) : StandMem (memDo m ⟨5, i, 0, 0, u, ⟨v, false, 0⟩⟩).1 n0 hd o := by
  have hl := h.l
  obtain ⟨e1, e2⟩ := memDo_store' (m := m) (i := i) (x := 0) (y := 0) (u := u) (l := ⟨v, false, 0⟩) (by unfold inLen; rw [hl]; simp; omega) (by simp [isLock, hv])
  refine ⟨by rw [e1]; simpa using hl, by rw [e2]; exact h.n, fun j l hj hh => ?_⟩
  rw [e1, List.getElem?_set] at hj
  split at hj
  · split at hj
    · cases hj; cases hh
    · cases hj
  · exact h.held j l hj hh
theorem StandMem.hold {m : MemS} {n0 hd o : Int} {u : TLock} (h : StandMem m n0 hd o) (h0 : 0 ≤ hd) (h1 : hd < 16) (ho : 0 ≤ o ∧ o < 4) : StandMem (memDo m ⟨5, hd, 0, 0, u, ⟨0, true, o⟩⟩).1 n0 hd o := by
  have hl := h.l
  obtain ⟨e1, e2⟩ := memDo_store' (m := m) (i := hd) (x := 0) (y := 0) (u := u) (l := ⟨0, true, o⟩) (by unfold inLen; rw [hl]; simp; omega) (by simp [isLock, ho])
  refine ⟨by rw [e1]; simpa using hl, by rw [e2]; exact h.n, fun j l hj hh => ?_⟩
  rw [e1, List.getElem?_set] at hj
  split at hj
  · split at hj
    · cases hj; exact ⟨by omega, h1, rfl⟩
    · cases hj
  · exact h.held j l hj hh

/-- is there one that is held by one of a greater number? -/
def waitsOn (hd o : Int) (s : List TSeen) : Bool := s.any fun q => decide (hd < 16) && decide (q.stripe = hd) && decide (1 < o)
theorem waitsOn_snoc (hd o : Int) (s : List TSeen) (q : TSeen) : waitsOn hd o (s ++ [q]) = (waitsOn hd o s || (decide (hd < 16) && decide (q.stripe = hd) && decide (1 < o))) := by unfold waitsOn; simp

set_option maxRecDepth 20000 in
set_option maxHeartbeats 4000000 in
theorem s_law24_ExtendStands {hd ow st : Int} {vv u : Value} {vs : List Int} {xs : List TSeen} [a0 : Arg w0 vv byteE vs] [a1 : Arg w0 u tSeenE xs] (hr0 : ∀ x ∈ vs, good [.i .u8] (byteE.enc x)) (hn2 : inK .u8 hd) (hn3 : inK .u8 ow) (hn4 : inK .u16 st) (hK : G w0 L (K (.bool true))) :
    G w0 L (CP Try.prog Fn.law24_ExtendStands [vv, u, .int .u8 hd, .int .u8 ow, .int .u16 st] K) := by
  have g2 := inK_u8 hn2
  have g3 := inK_u8 hn3
  have g4 := inK_u16 hn4
  have gv := good_u8 hr0
  refine C_law24_ExtendStands ?_
  unfold S_law24_ExtendStands
  refine s_law24_ExtendRuns ?_
  try simp (maxSteps := 2000000) only [fuse_and, fuse_or, fuse_step, fuse_pair, fuse_in, andP_true]
  try simp (maxSteps := 2000000) only [↓RG, RP, true_and, and_true, beq_true, beq_false, Bool.true_beq, Bool.false_beq, BEq.rfl, Int.reduceEq, Int.reduceLT, Int.reduceLE, Nat.reduceEqDiff, decide_true, decide_false, Bool.not_true, Bool.not_false, Bool.and_true, Bool.true_and, Bool.and_false, Bool.false_and, Bool.or_true, Bool.true_or, Bool.or_false, Bool.false_or, Bool.not_not]
  refine G.cond (fun h => hK) (fun h => ?_)
  have hx : xs.length ≤ 16 := by simp at h; omega
  have e1 : IntKind.wrap .u64 st = st := wu64 (by omega) (by omega)
  have e2 : IntKind.wrap .i64 (ow.tmod 4) = ow % 4 := by rw [Int.tmod_eq_emod_of_nonneg (by omega), wi64 (by omega) (by omega)]
  have e3 : IntKind.wrap .i64 hd = hd := wi64 (by omega) (by omega)
  obtain ⟨o, ho⟩ : ∃ o, ow % 4 = o := ⟨_, rfl⟩
  have ho4 : 0 ≤ o ∧ o < 4 := by omega
  try simp (maxSteps := 2000000) only [↓RG, RP, true_and, and_true, beq_true, beq_false, Bool.true_beq, Bool.false_beq, BEq.rfl, Int.reduceEq, Int.reduceLT, Int.reduceLE, Nat.reduceEqDiff, decide_true, decide_false, Bool.not_true, Bool.not_false, Bool.and_true, Bool.true_and, Bool.and_false, Bool.false_and, Bool.or_true, Bool.true_or, Bool.or_false, Bool.false_or, Bool.not_not, e1]
  refine s_mem_New (s := ⟨0, 16, 0, 0, st⟩) fun b => ?_
  try simp (maxSteps := 2000000) only [↓RG, RP, true_and, and_true, beq_true, beq_false, Bool.true_beq, Bool.false_beq, BEq.rfl, Int.reduceEq, Int.reduceLT, Int.reduceLE, Nat.reduceEqDiff, decide_true, decide_false, Bool.not_true, Bool.not_false, Bool.and_true, Bool.true_and, Bool.and_false, Bool.false_and, Bool.or_true, Bool.true_or, Bool.or_false, Bool.false_or, Bool.not_not]
  have hm0 : StandMem (newMem ⟨0, 16, 0, 0, st⟩) st hd o := ⟨rfl, by unfold newMem heldShape; simp only; rw [if_neg (by omega)], fun j l hj hh => by
    have : l ∈ List.replicate 16 zeroLock := List.mem_of_getElem? (show (List.replicate 16 zeroLock)[j]? = some l from hj)
    rw [(List.mem_replicate.1 this).2] at hh
    cases hh⟩
  refine G.loop1 (σ := Nat × MemS) (fun s => i64 s.1) (fun s => ob MemR b s.2 :: L) (fun s => s.1 ≤ vs.length ∧ StandMem s.2 st hd o) (fun s => vs.length - s.1) (0, newMem ⟨0, 16, 0, 0, st⟩) rfl rfl ⟨by simp, hm0⟩ ?_
  rintro ⟨k, m⟩ ⟨hk, hm⟩ J hJ
  simp only at hk hm hJ ⊢
  try simp (maxSteps := 2000000) only [↓RG, RP, true_and, and_true, beq_true, beq_false, Bool.true_beq, Bool.false_beq, BEq.rfl, Int.reduceEq, Int.reduceLT, Int.reduceLE, Nat.reduceEqDiff, decide_true, decide_false, Bool.not_true, Bool.not_false, Bool.and_true, Bool.true_and, Bool.and_false, Bool.false_and, Bool.or_true, Bool.true_or, Bool.or_false, Bool.false_or, Bool.not_not]
  refine G.cond (fun h => ?_) (fun h => ?_)
  · have hk2 : k < vs.length := by simp at h; omega
    have hk16 : k < 16 := by simp at h; omega
    have e := elem_of hk2
    have gk := gv _ (List.getElem_mem hk2)
    have e5 : IntKind.wrap .u64 (vs[k].tmod 2) = vs[k] % 2 := by rw [Int.tmod_eq_emod_of_nonneg (by omega), wu64 (by omega) (by omega)]
    try simp (maxSteps := 2000000) only [↓RG, RP, true_and, and_true, beq_true, beq_false, Bool.true_beq, Bool.false_beq, BEq.rfl, Int.reduceEq, Int.reduceLT, Int.reduceLE, Nat.reduceEqDiff, decide_true, decide_false, Bool.not_true, Bool.not_false, Bool.and_true, Bool.true_and, Bool.and_false, Bool.false_and, Bool.or_true, Bool.true_or, Bool.or_false, Bool.false_or, Bool.not_not, e5]
    refine s_mem_Mem_Do' (m := m) ?_
    try simp (maxSteps := 2000000) only [↓RG, RP, true_and, and_true, beq_true, beq_false, Bool.true_beq, Bool.false_beq, BEq.rfl, Int.reduceEq, Int.reduceLT, Int.reduceLE, Nat.reduceEqDiff, decide_true, decide_false, Bool.not_true, Bool.not_false, Bool.and_true, Bool.true_and, Bool.and_false, Bool.false_and, Bool.or_true, Bool.true_or, Bool.or_false, Bool.false_or, Bool.not_not]
    rw [wsucc (by omega)]
    exact hJ (k + 1, (memDo m ⟨5, (k : Int), 0, 0, ⟨0, false, 0⟩, ⟨vs[k] % 2, false, 0⟩⟩).1) ⟨hk2, hm.free (by omega) (by omega) (by omega)⟩ (by simp; omega)
  · try simp (maxSteps := 2000000) only [↓RG, RP, true_and, and_true, beq_true, beq_false, Bool.true_beq, Bool.false_beq, BEq.rfl, Int.reduceEq, Int.reduceLT, Int.reduceLE, Nat.reduceEqDiff, decide_true, decide_false, Bool.not_true, Bool.not_false, Bool.and_true, Bool.true_and, Bool.and_false, Bool.false_and, Bool.or_true, Bool.true_or, Bool.or_false, Bool.false_or, Bool.not_not, e2, ho]
    refine G.join0 (σ := MemS) (fun m => ob MemR b m :: L) (fun m => StandMem m st hd o) (fun m hm => ?_) (fun J2 hJ2 => ?_)
    · refine G.nilsl tSeenE ?_
      refine G.loop3 (σ := Value × List TSeen × Nat) (fun s => s.1) (fun s => .bool (waitsOn hd o s.2.1)) (fun s => i64 s.2.2) (fun s => sl tSeenE s.1 s.2.1 :: ob MemR b m :: L) (fun s => s.2.2 ≤ xs.length ∧ Cells s.1 [s.1] ∧ s.2.1.length = s.2.2 ∧ ∀ q ∈ s.2.1, 0 ≤ q.stripe ∧ q.stripe < 16) (fun s => xs.length - s.2.2) (.slice none 0 0, [], 0) rfl rfl rfl rfl ⟨by simp, cells_slice, rfl, by simp⟩ ?_
      rintro ⟨v, ss, k⟩ ⟨hk, hv, hs, hrg⟩ J hJ
      simp only at hk hv hs hrg hJ ⊢
      try simp (maxSteps := 2000000) only [↓RG, RP, true_and, and_true, beq_true, beq_false, Bool.true_beq, Bool.false_beq, BEq.rfl, Int.reduceEq, Int.reduceLT, Int.reduceLE, Nat.reduceEqDiff, decide_true, decide_false, Bool.not_true, Bool.not_false, Bool.and_true, Bool.true_and, Bool.and_false, Bool.false_and, Bool.or_true, Bool.true_or, Bool.or_false, Bool.false_or, Bool.not_not]
      refine G.cond (fun h => ?_) (fun h => ?_)
      · have hk2 : k < xs.length := by simpa using h
        have e := elem_of hk2
        repeat' (first | (with_reducible refine G.joini0 ?_) | (with_reducible refine G.joini1 ?_) | (with_reducible refine G.drew ?_) | (simp (maxSteps := 2000000) only [↓RG, RP, true_and, and_true, beq_true, beq_false, Bool.true_beq, Bool.false_beq, BEq.rfl, Int.reduceEq, Int.reduceLT, Int.reduceLE, Nat.reduceEqDiff, decide_true, decide_false, Bool.not_true, Bool.not_false, Bool.and_true, Bool.true_and, Bool.and_false, Bool.false_and, Bool.or_true, Bool.true_or, Bool.or_false, Bool.false_or, Bool.not_not]))
        refine s_book_Within (by omega) (by omega) (by omega) (by omega) ?_
        have hwi := within_le (n := xs[k].stripe) (lo := 0) (hi := 15) (by omega)
        repeat' (first | (with_reducible refine G.joini0 ?_) | (with_reducible refine G.joini1 ?_) | (with_reducible refine G.drew ?_) | (simp (maxSteps := 2000000) only [↓RG, RP, true_and, and_true, beq_true, beq_false, Bool.true_beq, Bool.false_beq, BEq.rfl, Int.reduceEq, Int.reduceLT, Int.reduceLE, Nat.reduceEqDiff, decide_true, decide_false, Bool.not_true, Bool.not_false, Bool.and_true, Bool.true_and, Bool.and_false, Bool.false_and, Bool.or_true, Bool.true_or, Bool.or_false, Bool.false_or, Bool.not_not]))
        refine G.append1 rfl rfl (by decide) (by omega) (by simp only [maxLen]; omega) fun y hy => ?_
        have e' : Elem (ss ++ [(⟨within xs[k].stripe 0 15, xs[k].version.tmod 2⟩ : TSeen)]) k ⟨within xs[k].stripe 0 15, xs[k].version.tmod 2⟩ := ⟨by simp [hs]⟩
        have next := hJ (y, ss ++ [(⟨within xs[k].stripe 0 15, xs[k].version.tmod 2⟩ : TSeen)], k + 1) ⟨hk2, hy, by simp [hs], fun q hq => by
          rcases List.mem_append.1 hq with hq | hq
          · exact hrg q hq
          · rw [List.mem_singleton.1 hq]; exact ⟨hwi.1, by simp only; omega⟩⟩ (by simp; omega)
        simp only [waitsOn_snoc] at next
        rw [wsucc (by omega)]
        generalize hwt : waitsOn hd o ss = wt at next ⊢
        cases wt
        · by_cases h16 : hd < 16
          · simp only [h16, decide_true, Bool.true_and, Bool.false_or] at next
            repeat' (first | (with_reducible refine G.joini0 ?_) | (with_reducible refine G.joini1 ?_) | (with_reducible refine G.drew ?_) | (simp (maxSteps := 2000000) only [↓RG, RP, true_and, and_true, beq_true, beq_false, Bool.true_beq, Bool.false_beq, BEq.rfl, Int.reduceEq, Int.reduceLT, Int.reduceLE, Nat.reduceEqDiff, decide_true, decide_false, Bool.not_true, Bool.not_false, Bool.and_true, Bool.true_and, Bool.and_false, Bool.false_and, Bool.or_true, Bool.true_or, Bool.or_false, Bool.false_or, Bool.not_not, h16, e3]))
            cases hq : decide (within xs[k].stripe 0 15 = hd)
            · rw [hq] at next
              repeat' (first | (with_reducible refine G.joini0 ?_) | (with_reducible refine G.joini1 ?_) | (with_reducible refine G.drew ?_) | (simp (maxSteps := 2000000) only [↓RG, RP, true_and, and_true, beq_true, beq_false, Bool.true_beq, Bool.false_beq, BEq.rfl, Int.reduceEq, Int.reduceLT, Int.reduceLE, Nat.reduceEqDiff, decide_true, decide_false, Bool.not_true, Bool.not_false, Bool.and_true, Bool.true_and, Bool.and_false, Bool.false_and, Bool.or_true, Bool.true_or, Bool.or_false, Bool.false_or, Bool.not_not, hq]))
              exact next.sub
            · rw [hq] at next
              repeat' (first | (with_reducible refine G.joini0 ?_) | (with_reducible refine G.joini1 ?_) | (with_reducible refine G.drew ?_) | (simp (maxSteps := 2000000) only [↓RG, RP, true_and, and_true, beq_true, beq_false, Bool.true_beq, Bool.false_beq, BEq.rfl, Int.reduceEq, Int.reduceLT, Int.reduceLE, Nat.reduceEqDiff, decide_true, decide_false, Bool.not_true, Bool.not_false, Bool.and_true, Bool.true_and, Bool.and_false, Bool.false_and, Bool.or_true, Bool.true_or, Bool.or_false, Bool.false_or, Bool.not_not, hq]))
              exact next.sub
          · simp only [h16, decide_false, Bool.false_and, Bool.false_or] at next
            repeat' (first | (with_reducible refine G.joini0 ?_) | (with_reducible refine G.joini1 ?_) | (with_reducible refine G.drew ?_) | (simp (maxSteps := 2000000) only [↓RG, RP, true_and, and_true, beq_true, beq_false, Bool.true_beq, Bool.false_beq, BEq.rfl, Int.reduceEq, Int.reduceLT, Int.reduceLE, Nat.reduceEqDiff, decide_true, decide_false, Bool.not_true, Bool.not_false, Bool.and_true, Bool.true_and, Bool.and_false, Bool.false_and, Bool.or_true, Bool.true_or, Bool.or_false, Bool.false_or, Bool.not_not, h16, e3]))
            exact next.sub
        · simp only [Bool.true_or] at next
          repeat' (first | (with_reducible refine G.joini0 ?_) | (with_reducible refine G.joini1 ?_) | (with_reducible refine G.drew ?_) | (simp (maxSteps := 2000000) only [↓RG, RP, true_and, and_true, beq_true, beq_false, Bool.true_beq, Bool.false_beq, BEq.rfl, Int.reduceEq, Int.reduceLT, Int.reduceLE, Nat.reduceEqDiff, decide_true, decide_false, Bool.not_true, Bool.not_false, Bool.and_true, Bool.true_and, Bool.and_false, Bool.false_and, Bool.or_true, Bool.true_or, Bool.or_false, Bool.false_or, Bool.not_not]))
          exact next.sub
      · have hss : ss.length ≤ 16 := by omega
        have hml := hm.l
        have hrs : ∀ q ∈ ss, 0 ≤ q.stripe ∧ q.stripe.toNat < m.l.length := fun q hq => by have := hrg q hq; omega
        refine s_mem_Mem_Locks (m := m) (by omega) fun lu hlu => ?_
        refine s_extend_New (xs := ss) (by omega) fun c => ?_
        try simp (maxSteps := 2000000) only [↓RG, RP, true_and, and_true, beq_true, beq_false, Bool.true_beq, Bool.false_beq, BEq.rfl, Int.reduceEq, Int.reduceLT, Int.reduceLE, Nat.reduceEqDiff, decide_true, decide_false, Bool.not_true, Bool.not_false, Bool.and_true, Bool.true_and, Bool.and_false, Bool.false_and, Bool.or_true, Bool.true_or, Bool.or_false, Bool.false_or, Bool.not_not]
        refine G.join1 (σ := Nat × MemS × ExtS) (fun s => i64 s.1) (fun s => ob ExtR c s.2.2 :: sl tLockE lu m.l :: sl tSeenE v ss :: ob MemR b s.2.1 :: L) (fun s => s.1 ≤ 60 ∧ StandInv m.l st ss s.1 s.2.2 ∧ s.2.1.l = m.l ∧ s.2.1.n = st ∧ (s.2.2.pat.fin = 0 → s.1 = 60)) (fun s hs => ?_) (fun J2 hJ2 => ?_)
        · obtain ⟨n, m2, x⟩ := s
          obtain ⟨hn, hi, hl2, hn2, hend⟩ := hs
          simp only at hn hi hl2 hn2 hend ⊢
          refine s_mem_Mem_Locks (m := m2) (by rw [hl2]; omega) fun lu2 hlu2 => ?_
          rw [hl2]
          refine s_book_Same_api_Lock (xs := m.l) (ys := m.l) (by omega) ?_
          try simp (maxSteps := 2000000) only [↓RG, RP, true_and, and_true, beq_true, beq_false, Bool.true_beq, Bool.false_beq, BEq.rfl, Int.reduceEq, Int.reduceLT, Int.reduceLE, Nat.reduceEqDiff, decide_true, decide_false, Bool.not_true, Bool.not_false, Bool.and_true, Bool.true_and, Bool.and_false, Bool.false_and, Bool.or_true, Bool.true_or, Bool.or_false, Bool.false_or, Bool.not_not]
          refine s_mem_Mem_Now (m := m2) ?_
          try simp (maxSteps := 2000000) only [↓RG, RP, true_and, and_true, beq_true, beq_false, Bool.true_beq, Bool.false_beq, BEq.rfl, Int.reduceEq, Int.reduceLT, Int.reduceLE, Nat.reduceEqDiff, decide_true, decide_false, Bool.not_true, Bool.not_false, Bool.and_true, Bool.true_and, Bool.and_false, Bool.false_and, Bool.or_true, Bool.true_or, Bool.or_false, Bool.false_or, Bool.not_not, hn2, e1]
          refine s_ref7_Stands (xs := ss) (ls := m.l) (by omega) (fun q hq => (hrg q hq).1) ?_
          refine s_extend_Extend_End (x := x) ?_
          try simp (maxSteps := 2000000) only [↓RG, RP, true_and, and_true, beq_true, beq_false, Bool.true_beq, Bool.false_beq, BEq.rfl, Int.reduceEq, Int.reduceLT, Int.reduceLE, Nat.reduceEqDiff, decide_true, decide_false, Bool.not_true, Bool.not_false, Bool.and_true, Bool.true_and, Bool.and_false, Bool.false_and, Bool.or_true, Bool.true_or, Bool.or_false, Bool.false_or, Bool.not_not]
          rcases hi.rest with g | ⟨g1, g2, g3, q, gq, gs, gw⟩ | ⟨g1, g2, g3, g4⟩ | ⟨g1, g2⟩
          · have := hend g.1; omega
          · have h60 := hend g1
            have hqs := (List.getElem?_eq_some_iff.1 gq).1
            have hw : waitsOn hd o ss = true := by
              rcases gw with g | ⟨l, k1, k2, k3⟩
              · omega
              · rcases k3 with g | g
                · obtain ⟨t1, t2, t3⟩ := hm.held _ l k1 k2
                  have := hrg q (List.mem_of_getElem? gq)
                  unfold waitsOn
                  rw [List.any_eq_true]
                  exact ⟨q, List.mem_of_getElem? gq, by simp; omega⟩
                · omega
            have c60 : ((60 : Nat) : Int) = 60 := rfl
            repeat' (first | (with_reducible refine G.joini0 ?_) | (with_reducible refine G.joini1 ?_) | (with_reducible refine G.drew ?_) | (simp (maxSteps := 2000000) only [↓RG, RP, true_and, and_true, beq_true, beq_false, Bool.true_beq, Bool.false_beq, BEq.rfl, Int.reduceEq, Int.reduceLT, Int.reduceLE, Nat.reduceEqDiff, decide_true, decide_false, Bool.not_true, Bool.not_false, Bool.and_true, Bool.true_and, Bool.and_false, Bool.false_and, Bool.or_true, Bool.true_or, Bool.or_false, Bool.false_or, Bool.not_not, g1, hw, h60, c60]))
            refine s_extend_Extend_End (x := x) ?_
            repeat' (first | (with_reducible refine G.joini0 ?_) | (with_reducible refine G.joini1 ?_) | (with_reducible refine G.drew ?_) | (simp (maxSteps := 2000000) only [↓RG, RP, true_and, and_true, beq_true, beq_false, Bool.true_beq, Bool.false_beq, BEq.rfl, Int.reduceEq, Int.reduceLT, Int.reduceLE, Nat.reduceEqDiff, decide_true, decide_false, Bool.not_true, Bool.not_false, Bool.and_true, Bool.true_and, Bool.and_false, Bool.false_and, Bool.or_true, Bool.true_or, Bool.or_false, Bool.false_or, Bool.not_not, g1]))
            exact hK.sub
          · repeat' (first | (with_reducible refine G.joini0 ?_) | (with_reducible refine G.joini1 ?_) | (with_reducible refine G.drew ?_) | (simp (maxSteps := 2000000) only [↓RG, RP, true_and, and_true, beq_true, beq_false, Bool.true_beq, Bool.false_beq, BEq.rfl, Int.reduceEq, Int.reduceLT, Int.reduceLE, Nat.reduceEqDiff, decide_true, decide_false, Bool.not_true, Bool.not_false, Bool.and_true, Bool.true_and, Bool.and_false, Bool.false_and, Bool.or_true, Bool.true_or, Bool.or_false, Bool.false_or, Bool.not_not, g1, g3]))
            refine s_extend_Extend_Stamp (x := x) ?_
            rw [if_pos g1, g4]
            repeat' (first | (with_reducible refine G.joini0 ?_) | (with_reducible refine G.joini1 ?_) | (with_reducible refine G.drew ?_) | (simp (maxSteps := 2000000) only [↓RG, RP, true_and, and_true, beq_true, beq_false, Bool.true_beq, Bool.false_beq, BEq.rfl, Int.reduceEq, Int.reduceLT, Int.reduceLE, Nat.reduceEqDiff, decide_true, decide_false, Bool.not_true, Bool.not_false, Bool.and_true, Bool.true_and, Bool.and_false, Bool.false_and, Bool.or_true, Bool.true_or, Bool.or_false, Bool.false_or, Bool.not_not, e1]))
            have e9 : decide ((n : Int) = IntKind.wrap .i64 ((ss.length : Int) + 1)) = true := by rw [wi64 (by omega) (by omega)]; simp; omega
            rw [e9]
            exact hK.sub
          · repeat' (first | (with_reducible refine G.joini0 ?_) | (with_reducible refine G.joini1 ?_) | (with_reducible refine G.drew ?_) | (simp (maxSteps := 2000000) only [↓RG, RP, true_and, and_true, beq_true, beq_false, Bool.true_beq, Bool.false_beq, BEq.rfl, Int.reduceEq, Int.reduceLT, Int.reduceLE, Nat.reduceEqDiff, decide_true, decide_false, Bool.not_true, Bool.not_false, Bool.and_true, Bool.true_and, Bool.and_false, Bool.false_and, Bool.or_true, Bool.true_or, Bool.or_false, Bool.false_or, Bool.not_not, g1, g2]))
            refine s_extend_Extend_Stamp (x := x) ?_
            rw [if_neg (by omega)]
            repeat' (first | (with_reducible refine G.joini0 ?_) | (with_reducible refine G.joini1 ?_) | (with_reducible refine G.drew ?_) | (simp (maxSteps := 2000000) only [↓RG, RP, true_and, and_true, beq_true, beq_false, Bool.true_beq, Bool.false_beq, BEq.rfl, Int.reduceEq, Int.reduceLT, Int.reduceLE, Nat.reduceEqDiff, decide_true, decide_false, Bool.not_true, Bool.not_false, Bool.and_true, Bool.true_and, Bool.and_false, Bool.false_and, Bool.or_true, Bool.true_or, Bool.or_false, Bool.false_or, Bool.not_not]))
            exact hK.sub
        · refine G.loop1 (σ := Nat × MemS × ExtS) (fun s => i64 s.1) (fun s => ob ExtR c s.2.2 :: sl tLockE lu m.l :: sl tSeenE v ss :: ob MemR b s.2.1 :: L) (fun s => s.1 ≤ 60 ∧ StandInv m.l st ss s.1 s.2.2 ∧ s.2.1.l = m.l ∧ s.2.1.n = st) (fun s => 60 - s.1) (0, m, extNew 1 3 ss) rfl rfl ⟨by simp, StandInv.new _ _ _, rfl, hm.n⟩ ?_
          rintro ⟨n, m2, x⟩ ⟨hn, hi, hl2, hn2⟩ J hJ
          simp only at hn hi hl2 hn2 hJ ⊢
          try simp (maxSteps := 2000000) only [↓RG, RP, true_and, and_true, beq_true, beq_false, Bool.true_beq, Bool.false_beq, BEq.rfl, Int.reduceEq, Int.reduceLT, Int.reduceLE, Nat.reduceEqDiff, decide_true, decide_false, Bool.not_true, Bool.not_false, Bool.and_true, Bool.true_and, Bool.and_false, Bool.false_and, Bool.or_true, Bool.true_or, Bool.or_false, Bool.false_or, Bool.not_not]
          refine G.cond (fun h => ?_) (fun h => ?_)
          · have hn60 : n < 60 := by simp at h; omega
            refine s_extend_Extend_Next (x := x) hi.ok ?_
            try simp (maxSteps := 2000000) only [↓RG, RP, true_and, and_true, beq_true, beq_false, Bool.true_beq, Bool.false_beq, BEq.rfl, Int.reduceEq, Int.reduceLT, Int.reduceLE, Nat.reduceEqDiff, decide_true, decide_false, Bool.not_true, Bool.not_false, Bool.and_true, Bool.true_and, Bool.and_false, Bool.false_and, Bool.or_true, Bool.true_or, Bool.or_false, Bool.false_or, Bool.not_not]
            refine G.new fun p => ?_
            try simp (maxSteps := 2000000) only [↓RG, RP, true_and, and_true, beq_true, beq_false, Bool.true_beq, Bool.false_beq, BEq.rfl, Int.reduceEq, Int.reduceLT, Int.reduceLE, Nat.reduceEqDiff, decide_true, decide_false, Bool.not_true, Bool.not_false, Bool.and_true, Bool.true_and, Bool.and_false, Bool.false_and, Bool.or_true, Bool.true_or, Bool.or_false, Bool.false_or, Bool.not_not]
            by_cases hf : x.pat.fin = 0
            · obtain ⟨k1, k2, k3⟩ := hi.step hrs hf hl2 hn2
              have h2 : (extNext x).2 = true := by unfold extNext; rw [if_pos hf]; split <;> rfl
              try simp (maxSteps := 2000000) only [↓RG, RP, true_and, and_true, beq_true, beq_false, Bool.true_beq, Bool.false_beq, BEq.rfl, Int.reduceEq, Int.reduceLT, Int.reduceLE, Nat.reduceEqDiff, decide_true, decide_false, Bool.not_true, Bool.not_false, Bool.and_true, Bool.true_and, Bool.and_false, Bool.false_and, Bool.or_true, Bool.true_or, Bool.or_false, Bool.false_or, Bool.not_not, h2]
              refine s_mem_Mem_Do (m := m2) (o := (extNext x).1) ?_
              try simp (maxSteps := 2000000) only [↓RG, RP, true_and, and_true, beq_true, beq_false, Bool.true_beq, Bool.false_beq, BEq.rfl, Int.reduceEq, Int.reduceLT, Int.reduceLE, Nat.reduceEqDiff, decide_true, decide_false, Bool.not_true, Bool.not_false, Bool.and_true, Bool.true_and, Bool.and_false, Bool.false_and, Bool.or_true, Bool.true_or, Bool.or_false, Bool.false_or, Bool.not_not]
              refine s_extend_Extend_Tell (x := x) (a := (memDo m2 (extNext x).1).2) hi.ok (by rw [hi.seen]; omega) ?_
              try simp (maxSteps := 2000000) only [↓RG, RP, true_and, and_true, beq_true, beq_false, Bool.true_beq, Bool.false_beq, BEq.rfl, Int.reduceEq, Int.reduceLT, Int.reduceLE, Nat.reduceEqDiff, decide_true, decide_false, Bool.not_true, Bool.not_false, Bool.and_true, Bool.true_and, Bool.and_false, Bool.false_and, Bool.or_true, Bool.true_or, Bool.or_false, Bool.false_or, Bool.not_not]
              rw [wsucc (by omega)]
              exact (hJ (n + 1, (memDo m2 (extNext x).1).1, extTell x (memDo m2 (extNext x).1).2) ⟨hn60, k1, k2, k3⟩ (by simp; omega)).sub
            · have h2 : (extNext x).2 = false := by unfold extNext; rw [if_neg hf]
              try simp (maxSteps := 2000000) only [↓RG, RP, true_and, and_true, beq_true, beq_false, Bool.true_beq, Bool.false_beq, BEq.rfl, Int.reduceEq, Int.reduceLT, Int.reduceLE, Nat.reduceEqDiff, decide_true, decide_false, Bool.not_true, Bool.not_false, Bool.and_true, Bool.true_and, Bool.and_false, Bool.false_and, Bool.or_true, Bool.true_or, Bool.or_false, Bool.false_or, Bool.not_not, h2]
              exact (hJ2 (n, m2, x) ⟨hn, hi, hl2, hn2, fun g => absurd g hf⟩).sub
          · have : n = 60 := by simp at h; omega
            exact (hJ2 (n, m2, x) ⟨hn, hi, hl2, hn2, fun _ => this⟩).sub
    · refine G.cond (fun h => ?_) (fun h => ?_)
      · try simp (maxSteps := 2000000) only [↓RG, RP, true_and, and_true, beq_true, beq_false, Bool.true_beq, Bool.false_beq, BEq.rfl, Int.reduceEq, Int.reduceLT, Int.reduceLE, Nat.reduceEqDiff, decide_true, decide_false, Bool.not_true, Bool.not_false, Bool.and_true, Bool.true_and, Bool.and_false, Bool.false_and, Bool.or_true, Bool.true_or, Bool.or_false, Bool.false_or, Bool.not_not, e3]
        refine s_mem_Mem_Do' (m := m) ?_
        try simp (maxSteps := 2000000) only [↓RG, RP, true_and, and_true, beq_true, beq_false, Bool.true_beq, Bool.false_beq, BEq.rfl, Int.reduceEq, Int.reduceLT, Int.reduceLE, Nat.reduceEqDiff, decide_true, decide_false, Bool.not_true, Bool.not_false, Bool.and_true, Bool.true_and, Bool.and_false, Bool.false_and, Bool.or_true, Bool.true_or, Bool.or_false, Bool.false_or, Bool.not_not]
        exact (hJ2 _ (hm.hold (u := ⟨0, false, 0⟩) (by omega) (by simpa using h) ho4)).sub
      · exact (hJ2 m hm).sub

end
end Go.Proofs.Ytaghnmllaghcbaa.S
