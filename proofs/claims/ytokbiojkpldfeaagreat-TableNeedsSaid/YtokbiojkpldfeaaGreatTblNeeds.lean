/-
  CHAPTER 18: TableNeeds.
-/
import Derived.Test.YtokbiojkpldfeaaGreatPlF
import Derived.Test.YtokbiojkpldfeaaGreatStepAny
namespace Go.Proofs.YtokbiojkpldfeaaGreat.S
open Go Go.Proofs
set_option linter.unusedVariables false
set_option linter.unusedSimpArgs false

theorem knW_some {w : List Int} {nd : Int} (h : lookC (knW w 255) nd ≠ none) : lookC (knW w 255) nd = some (hOf w nd) ∧ 1 ≤ nd ∧ nd < 256 := by
  cases hl : lookC (knW w 255) nd with
  | none => exact absurd hl h
  | some x =>
    obtain ⟨c, hc, e⟩ := lookC_mem' hl
    have := knW_nodup.2 c hc
    have h2 := knW_look (w := w) (j := 255) (p := nd) (by omega) (by omega)
    rw [hl] at h2
    exact ⟨h2, by omega, by omega⟩
/-- one word more is known -/
theorem know_next {s : VwS} {Q : List TCell} {nd x : Int} (C : Clean s) (hsub : ∀ a x, lookC s.k a = some x → lookC Q a = some x) (h1 : 1 ≤ nd) (h2 : nd < 256) (hn : lookC s.k nd = none) (hx : lookC Q nd = some x) :
    vKnow ⟨s.size, s.k, s.l, nd⟩ nd x = (⟨s.size, s.k ++ [⟨nd, x⟩], s.l, nd⟩, 0) ∧ Clean ⟨s.size, s.k ++ [⟨nd, x⟩], s.l, nd⟩ ∧ ∀ a y, lookC (s.k ++ [⟨nd, x⟩]) a = some y → lookC Q a = some y := by
  refine ⟨?_, ⟨C.size, C.l, ?_, fun c hc => ?_⟩, fun a y hy => ?_⟩
  · unfold vKnow
    rw [if_pos (by unfold isV; simp only [C.size]; simp; omega)]
    simp only [hn]
  · show ((s.k ++ [(⟨nd, x⟩ : TCell)]).map fun z : TCell => z.place).Nodup
    rw [List.map_append, List.nodup_append]
    refine ⟨C.nodup, by simp, fun p hp q hq e => ?_⟩
    simp only [List.map_cons, List.map_nil, List.mem_singleton] at hq
    obtain ⟨c, hc, rfl⟩ := List.mem_map.1 hp
    obtain ⟨j, hj, e2⟩ := List.getElem_of_mem hc
    have := lookC_of C.nodup hj
    rw [e2, e, hq, hn] at this
    cases this
  · rcases List.mem_append.1 hc with hc | hc
    · exact C.pos c hc
    · rw [List.mem_singleton.1 hc]; exact ⟨h1, h2⟩
  · rw [lookC_append hn] at hy
    split at hy
    · rename_i e; subst e; rw [hx, ← hy]
    · exact hsub a y hy
theorem clean_few {s : VwS} (C : Clean s) : s.k.length ≤ 255 := by
  have := nodup_fewK 255 (s.k.map fun c => c.place - 1) (by
    have h := C.nodup
    rw [List.nodup_iff_pairwise_ne, List.pairwise_map] at h ⊢
    exact h.imp fun h => by omega) (fun x hx => by
    obtain ⟨c, hc, rfl⟩ := List.mem_map.1 hx
    have := C.pos c hc
    omega)
  simpa using this
/-- the heap, as the call's own root sees it -/
theorem inv_at {w : List Int} {p : List TPair × List TPair} (I : ∃ o o2, Inv w 8 9 o o2 p.1 p.2) (c : TCall) : ∃ r r' o o2 L1 L2, r = 6 + cPlace (m0 c c.root) ∧ (6 ≤ r ∧ r < 14) ∧ (6 ≤ r' ∧ r' < 14) ∧ r ≠ r' ∧ Inv w r r' o o2 L1 L2 := by
  obtain ⟨o, o2, I⟩ := I
  rcases m0_places c c.root with h | h
  · exact ⟨8, 9, o, o2, _, _, by omega, by omega, by omega, by omega, I⟩
  · exact ⟨9, 8, o2, o, _, _, by omega, by omega, by omega, by omega, I.swap⟩
theorem Clean.new : Clean (vNew 256 96) := ⟨rfl, rfl, List.nodup_nil, by simp [vNew]⟩

section
variable {w0 : Base} {L M : List Asn} {K : KV} {F : World → Prop} {C : Asn → List Asn} {b : Nat}
set_option maxHeartbeats 1000000 in
theorem s_law18_TableNeeds {l : Value} {qs : List TCall} {c : TCall} [r : Arg w0 l tCallE qs] (hr0 : ∀ x ∈ qs, good TCallK (tCallE.enc x)) (hs1 : good TCallK (tCallE.enc c)) (hK : G w0 L (K (.bool true))) : G w0 L (CP Tryz.prog Fn.law18_TableNeeds [l, .agg (TCall.cells c).toArray] K) := by
  have hc := good_call hs1
  refine C_law18_TableNeeds ?_
  unfold S_law18_TableNeeds
  try simp (maxSteps := 2000000) only [fuse_and, fuse_or, fuse_step, fuse_pair, fuse_in, andP_true]
  refine G.box fun x1 => ?_
  refine s_law18_TableRuns ?_
  try simp (maxSteps := 2000000) only [↓RG, RP, RB, BEq.rfl, Int.reduceEq, Int.reduceLT, Int.reduceLE, Nat.reduceEqDiff]
  refine s_arena_Fresh fun u hu => ?_
  try simp (maxSteps := 2000000) only [↓RG, RP, RB, BEq.rfl, Int.reduceEq, Int.reduceLT, Int.reduceLE, Nat.reduceEqDiff]
  refine G.newObj fun b => ?_
  refine G.loop2 (σ := Value × Nat × List Int × (List TPair × List TPair)) (fun z => z.1) (fun z => i64 z.2.1) (fun z => ob ObjR b z.2.2.2 :: sl wordE z.1 z.2.2.1 :: own x1 (TCall.cells c) :: L) (fun z => Cells z.1 [z.1] ∧ z.2.1 ≤ 20 ∧ ∃ o o2, Inv z.2.2.1 8 9 o o2 z.2.2.2.1 z.2.2.2.2) (fun z => 20 - z.2.1) (u, 0, fresh 256, ([], [])) rfl rfl rfl ⟨hu, by simp, none, none, fresh_ok⟩ ?_
  rintro ⟨u, j, w, p⟩ ⟨hu, hj, I⟩ J hJ
  simp only at hu hj I hJ ⊢
  by_cases g1 : j < qs.length ∧ j < 20
  · have g2 : decide ((j : Int) < (qs.length : Int)) = true := decide_eq_true (by omega)
    have g3 : decide ((j : Int) < 20) = true := decide_eq_true (by omega)
    have e := elem_of g1.1
    have hgood := good_call (hr0 qs[j] (List.getElem_mem g1.1))
    generalize qs[j] = q at e hgood
    try simp (maxSteps := 2000000) only [↓RG, RP, RB, BEq.rfl, Int.reduceEq, Int.reduceLT, Int.reduceLE, Nat.reduceEqDiff, g2, g3]
    refine s_law18_mine (v := .agg (TCall.cells q).toArray) (c := q) ?_
    try simp (maxSteps := 2000000) only [↓RG, RP, RB, BEq.rfl, Int.reduceEq, Int.reduceLT, Int.reduceLE, Nat.reduceEqDiff]
    refine s_step_any (p := p) (c := m0 q q.root) hu I (m0_places q q.root) (m0_which q q.root) hgood fun u2 w' p' hu2 I' => ?_
    try simp (maxSteps := 2000000) only [↓RG, RP, RB, BEq.rfl, Int.reduceEq, Int.reduceLT, Int.reduceLE, Nat.reduceEqDiff]
    rw [wsucc (by omega)]
    exact (hJ (u2, j + 1, w', p') ⟨hu2, by simp only; omega, I'⟩ (by simp only; omega)).sub
  · have hb : (decide ((j : Int) < (qs.length : Int)) = true ∧ decide ((j : Int) < 20) = false) ∨ decide ((j : Int) < (qs.length : Int)) = false := by
      by_cases h1 : j < qs.length
      · exact .inl ⟨decide_eq_true (by omega), decide_eq_false (by omega)⟩
      · exact .inr (decide_eq_false (by omega))
    rcases hb with ⟨g2, g3⟩ | g2
    · try simp (maxSteps := 2000000) only [↓RG, RP, RB, BEq.rfl, Int.reduceEq, Int.reduceLT, Int.reduceLE, Nat.reduceEqDiff, g2, g3]
      obtain ⟨r, r', o, o2, L1, L2, er, hr, hr', hne, I⟩ := inv_at I c
      refine s_law18_mine (v := .agg (TCall.cells c).toArray) (c := c) ?_
      try simp (maxSteps := 2000000) only [↓RG, RP, RB, BEq.rfl, Int.reduceEq, Int.reduceLT, Int.reduceLE, Nat.reduceEqDiff]
      refine s_keep_Call_Place (v := .agg (TCall.cells (m0 c c.root)).toArray) (c := m0 c c.root) ?_
      have e6 : IntKind.wrap .i64 (6 + cPlace (m0 c c.root)) = r := by rw [er]; have := m0_places c c.root; exact wi64 (by omega) (by omega)
      have hw := I.ok
      have ewl : ((w.length : Nat) : Int) = 256 := by rw [hw.1]; rfl
      try simp (maxSteps := 2000000) only [↓RG, RP, RB, BEq.rfl, Int.reduceEq, Int.reduceLT, Int.reduceLE, Nat.reduceEqDiff, e6, ewl]
      refine s_view_New fun b1 => ?_
      refine s_view_Whole (ws := w) (m := 96) (by rw [hw.1]; decide) fun b2 => ?_
      try simp (maxSteps := 2000000) only [↓RG, RP, RB, BEq.rfl, Int.reduceEq, Int.reduceLT, Int.reduceLE, Nat.reduceEqDiff]
      show G w0 (ob ViewR b2 (vAll w 96) :: ob ViewR b1 (vNew 256 96) :: ob ObjR b p :: sl wordE u w :: own x1 (TCall.cells (mine c)) :: L) _
      refine s_law18_call (b := b2) (s := vAll w 96) (v := .agg (TCall.cells (mine c)).toArray) (c := mine c) (by show 0 ≤ _; omega) ?_
      have hcp := fun (s : VwS) (Cs : Clean s) hsub => call_part (s := s) (t := vAll w 96) (c := mine c) I hr hr' hne hc (knW w 255) Cs (Clean.all hw.1) (by rw [vAll_eq hw.1]) hsub (fun a ta => knW_look ta.1 (by have := ta.2.1; omega))
      generalize hT : lCall (vAll w 96) r (mine c) = T at hcp
      obtain ⟨t2, y, fe⟩ := T
      try simp (maxSteps := 2000000) only [↓RG, RP, RB, BEq.rfl, Int.reduceEq, Int.reduceLT, Int.reduceLE, Nat.reduceEqDiff]
      refine G.new fun x39 => ?_
      try simp (maxSteps := 2000000) only [↓RG, RP, RB, BEq.rfl, Int.reduceEq, Int.reduceLT, Int.reduceLE, Nat.reduceEqDiff]
      refine G.sub (L' := ob ViewR b1 (vNew 256 96) :: own x39 [i64 y.sort, u64 y.n] :: ob ViewR b2 t2 :: sl wordE u w :: own x1 (TCall.cells (mine c)) :: L) ?_
      refine G.loop1 (σ := VwS) (fun s => i64 (s.k.length : Nat)) (fun s => ob ViewR b1 s :: own x39 [i64 y.sort, u64 y.n] :: ob ViewR b2 t2 :: sl wordE u w :: own x1 (TCall.cells (mine c)) :: L) (fun s => Clean s ∧ ∀ a x, lookC s.k a = some x → lookC (knW w 255) a = some x) (fun s => 256 - s.k.length) (vNew 256 96) rfl rfl ⟨Clean.new, fun a x h => by cases h⟩ ?_
      rintro s ⟨Cs, hsub⟩ J2 hJ2
      have hfew := clean_few Cs
      have a1 : decide ((s.k.length : Int) < 256) = true := decide_eq_true (by omega)
      try simp (maxSteps := 2000000) only [↓RG, RP, RB, BEq.rfl, Int.reduceEq, Int.reduceLT, Int.reduceLE, Nat.reduceEqDiff, a1]
      refine s_law18_call (b := b1) (s := s) (v := .agg (TCall.cells (mine c)).toArray) (c := mine c) (by rw [Cs.l]; show 0 ≤ _; omega) ?_
      rcases hcp s Cs hsub with ⟨nd, it, e1, n1, n2, n3, n4⟩ | ⟨cs, f', it, er2, q1, q2, q3, q4, q5⟩
      · rw [e1]
        obtain ⟨k1, _, _⟩ := knW_some n4
        obtain ⟨m1, m2, m3⟩ := know_next Cs hsub n1 n2 n3 k1
        try simp (maxSteps := 2000000) only [↓RG, RP, RB, BEq.rfl, Int.reduceEq, Int.reduceLT, Int.reduceLE, Nat.reduceEqDiff]
        refine G.new fun x47 => ?_
        try simp (maxSteps := 2000000) only [↓RG, RP, RB, BEq.rfl, Int.reduceEq, Int.reduceLT, Int.reduceLE, Nat.reduceEqDiff]
        refine s_view_Need (b := b1) (s := ⟨s.size, s.k, s.l, nd⟩) ?_
        have a3 : decide (nd < 1) = false := decide_eq_false (by omega)
        have a4 : decide ((256 : Int) ≤ nd) = false := decide_eq_false (by omega)
        have sl0 : s.l = ⟨96, ⟨[], []⟩, []⟩ := Cs.l
        try simp (maxSteps := 2000000) only [↓RG, RP, RB, BEq.rfl, Int.reduceEq, Int.reduceLT, Int.reduceLE, Nat.reduceEqDiff, a3, ewl, a4]
        refine s_view_Cells (b := b1) (s := ⟨s.size, s.k, s.l, nd⟩) fun u3 hu3 => ?_
        have h0 : (s.l.cells.length : Int) = 0 := by rw [sl0]; rfl
        try simp (maxSteps := 2000000) only [↓RG, RP, RB, BEq.rfl, Int.reduceEq, Int.reduceLT, Int.reduceLE, Nat.reduceEqDiff, h0]
        refine s_view_Frees (b := b1) (s := ⟨s.size, s.k, s.l, nd⟩) (by rw [sl0]; show 0 ≤ _; omega) fun u4 hu4 => ?_
        have h1 : (s.l.frees.length : Int) = 0 := by rw [sl0]; rfl
        try simp (maxSteps := 2000000) only [↓RG, RP, RB, BEq.rfl, Int.reduceEq, Int.reduceLT, Int.reduceLE, Nat.reduceEqDiff, h1]
        refine s_view_Depth (b := b1) (s := ⟨s.size, s.k, s.l, nd⟩) ?_
        have hd : ((s.l.up.length + 1 : Nat) : Int) = 1 := by rw [sl0]; rfl
        rw [hd]
        obtain ⟨m, rfl⟩ : ∃ m : Nat, nd = m := ⟨nd.toNat, by omega⟩
        have hmw : m < w.length := by rw [hw.1]; omega
        have em := elem_of hmw
        have ew : hOf w (m : Int) = w[m] := by
          show w.getD ((m : Int).toNat) 0 = _
          rw [Int.toNat_natCast, List.getD_eq_getElem?_getD, List.getElem?_eq_getElem hmw]; rfl
        rw [ew] at m1 m2 m3
        generalize w[m] = xw at em m1 m2 m3
        try simp (maxSteps := 2000000) only [↓RG, RP, RB, BEq.rfl, Int.reduceEq, Int.reduceLT, Int.reduceLE, Nat.reduceEqDiff]
        refine s_view_Know (b := b1) (s := ⟨s.size, s.k, s.l, (m : Int)⟩) (by simp only; omega) ?_
        rw [m1]
        try simp (maxSteps := 2000000) only [↓RG, RP, RB, BEq.rfl, Int.reduceEq, Int.reduceLT, Int.reduceLE, Nat.reduceEqDiff]
        refine s_view_Known (b := b1) (s := ⟨s.size, s.k ++ [⟨(m : Int), xw⟩], s.l, (m : Int)⟩) (by simp; omega) fun u5 hu5 => ?_
        have e5 : ((s.k ++ [(⟨(m : Int), xw⟩ : TCell)]).length : Int) = (s.k.length : Int) + 1 := by simp
        have e7 : IntKind.wrap .i64 ((s.k.length : Int) + 1) = (s.k.length : Int) + 1 := wi64 (by omega) (by omega)
        have e8 : decide ((s.k.length : Int) + 1 = (s.k.length : Int) + 1) = true := decide_eq_true rfl
        try simp (maxSteps := 2000000) only [↓RG, RP, RB, BEq.rfl, Int.reduceEq, Int.reduceLT, Int.reduceLE, Nat.reduceEqDiff, e5, e7, e8]
        have h := hJ2 ⟨s.size, s.k ++ [⟨(m : Int), xw⟩], s.l, (m : Int)⟩ ⟨m2, m3⟩ (by simp; omega)
        simp only [e5] at h
        exact h.sub
      · rw [q4]
        cases q5
        have a2 : decide (fe = 11) = false := decide_eq_false q1
        try simp (maxSteps := 2000000) only [↓RG, RP, RB, BEq.rfl, Int.reduceEq, Int.reduceLT, Int.reduceLE, Nat.reduceEqDiff]
        refine G.new fun x47 => ?_
        try simp (maxSteps := 2000000) only [↓RG, RP, RB, BEq.rfl, Int.reduceEq, Int.reduceLT, Int.reduceLE, Nat.reduceEqDiff, a2]
        refine s_view_Cells (b := b1) (s := outV s cs f') fun u3 hu3 => ?_
        refine s_view_Cells (b := b2) (s := outV (vAll w 96) cs f') fun u4 hu4 => ?_
        refine s_book_Same_api_Cell (xs := cs) (ys := cs) (by omega) ?_
        rw [decide_eq_true (rfl : cs = cs)]
        try simp (maxSteps := 2000000) only [↓RG, RP, RB, BEq.rfl, Int.reduceEq, Int.reduceLT, Int.reduceLE, Nat.reduceEqDiff]
        have hfl : (outV s cs f').l.frees = f' := by show freesR ([].reverse ++ [(⟨cs, f'⟩ : Lv)]) = f'; simp [freesR]
        refine s_view_Frees (b := b1) (s := outV s cs f') (by rw [hfl]; omega) fun u5 hu5 => ?_
        refine s_view_Frees (b := b2) (s := outV (vAll w 96) cs f') (by show (outV s cs f').l.frees.length ≤ _; rw [hfl]; omega) fun u6 hu6 => ?_
        refine s_book_Same_int (xs := (outV s cs f').l.frees) (ys := (outV s cs f').l.frees) (by rw [hfl]; omega) ?_
        rw [decide_eq_true (rfl : (outV s cs f').l.frees = (outV s cs f').l.frees)]
        try simp (maxSteps := 2000000) only [↓RG, RP, RB, BEq.rfl, Int.reduceEq, Int.reduceLT, Int.reduceLE, Nat.reduceEqDiff]
        refine s_view_Depth (b := b1) (s := outV s cs f') ?_
        have hd : ((((outV s cs f').l.up.length + 1 : Nat)) : Int) = 1 := rfl
        rw [hd]
        try simp (maxSteps := 2000000) only [↓RG, RP, RB, BEq.rfl, Int.reduceEq, Int.reduceLT, Int.reduceLE, Nat.reduceEqDiff]
        exact hK.sub
    · try simp (maxSteps := 2000000) only [↓RG, RP, RB, BEq.rfl, Int.reduceEq, Int.reduceLT, Int.reduceLE, Nat.reduceEqDiff, g2]
      obtain ⟨r, r', o, o2, L1, L2, er, hr, hr', hne, I⟩ := inv_at I c
      refine s_law18_mine (v := .agg (TCall.cells c).toArray) (c := c) ?_
      try simp (maxSteps := 2000000) only [↓RG, RP, RB, BEq.rfl, Int.reduceEq, Int.reduceLT, Int.reduceLE, Nat.reduceEqDiff]
      refine s_keep_Call_Place (v := .agg (TCall.cells (m0 c c.root)).toArray) (c := m0 c c.root) ?_
      have e6 : IntKind.wrap .i64 (6 + cPlace (m0 c c.root)) = r := by rw [er]; have := m0_places c c.root; exact wi64 (by omega) (by omega)
      have hw := I.ok
      have ewl : ((w.length : Nat) : Int) = 256 := by rw [hw.1]; rfl
      try simp (maxSteps := 2000000) only [↓RG, RP, RB, BEq.rfl, Int.reduceEq, Int.reduceLT, Int.reduceLE, Nat.reduceEqDiff, e6, ewl]
      refine s_view_New fun b1 => ?_
      refine s_view_Whole (ws := w) (m := 96) (by rw [hw.1]; decide) fun b2 => ?_
      try simp (maxSteps := 2000000) only [↓RG, RP, RB, BEq.rfl, Int.reduceEq, Int.reduceLT, Int.reduceLE, Nat.reduceEqDiff]
      show G w0 (ob ViewR b2 (vAll w 96) :: ob ViewR b1 (vNew 256 96) :: ob ObjR b p :: sl wordE u w :: own x1 (TCall.cells (mine c)) :: L) _
      refine s_law18_call (b := b2) (s := vAll w 96) (v := .agg (TCall.cells (mine c)).toArray) (c := mine c) (by show 0 ≤ _; omega) ?_
      have hcp := fun (s : VwS) (Cs : Clean s) hsub => call_part (s := s) (t := vAll w 96) (c := mine c) I hr hr' hne hc (knW w 255) Cs (Clean.all hw.1) (by rw [vAll_eq hw.1]) hsub (fun a ta => knW_look ta.1 (by have := ta.2.1; omega))
      generalize hT : lCall (vAll w 96) r (mine c) = T at hcp
      obtain ⟨t2, y, fe⟩ := T
      try simp (maxSteps := 2000000) only [↓RG, RP, RB, BEq.rfl, Int.reduceEq, Int.reduceLT, Int.reduceLE, Nat.reduceEqDiff]
      refine G.new fun x39 => ?_
      try simp (maxSteps := 2000000) only [↓RG, RP, RB, BEq.rfl, Int.reduceEq, Int.reduceLT, Int.reduceLE, Nat.reduceEqDiff]
      refine G.sub (L' := ob ViewR b1 (vNew 256 96) :: own x39 [i64 y.sort, u64 y.n] :: ob ViewR b2 t2 :: sl wordE u w :: own x1 (TCall.cells (mine c)) :: L) ?_
      refine G.loop1 (σ := VwS) (fun s => i64 (s.k.length : Nat)) (fun s => ob ViewR b1 s :: own x39 [i64 y.sort, u64 y.n] :: ob ViewR b2 t2 :: sl wordE u w :: own x1 (TCall.cells (mine c)) :: L) (fun s => Clean s ∧ ∀ a x, lookC s.k a = some x → lookC (knW w 255) a = some x) (fun s => 256 - s.k.length) (vNew 256 96) rfl rfl ⟨Clean.new, fun a x h => by cases h⟩ ?_
      rintro s ⟨Cs, hsub⟩ J2 hJ2
      have hfew := clean_few Cs
      have a1 : decide ((s.k.length : Int) < 256) = true := decide_eq_true (by omega)
      try simp (maxSteps := 2000000) only [↓RG, RP, RB, BEq.rfl, Int.reduceEq, Int.reduceLT, Int.reduceLE, Nat.reduceEqDiff, a1]
      refine s_law18_call (b := b1) (s := s) (v := .agg (TCall.cells (mine c)).toArray) (c := mine c) (by rw [Cs.l]; show 0 ≤ _; omega) ?_
      rcases hcp s Cs hsub with ⟨nd, it, e1, n1, n2, n3, n4⟩ | ⟨cs, f', it, er2, q1, q2, q3, q4, q5⟩
      · rw [e1]
        obtain ⟨k1, _, _⟩ := knW_some n4
        obtain ⟨m1, m2, m3⟩ := know_next Cs hsub n1 n2 n3 k1
        try simp (maxSteps := 2000000) only [↓RG, RP, RB, BEq.rfl, Int.reduceEq, Int.reduceLT, Int.reduceLE, Nat.reduceEqDiff]
        refine G.new fun x47 => ?_
        try simp (maxSteps := 2000000) only [↓RG, RP, RB, BEq.rfl, Int.reduceEq, Int.reduceLT, Int.reduceLE, Nat.reduceEqDiff]
        refine s_view_Need (b := b1) (s := ⟨s.size, s.k, s.l, nd⟩) ?_
        have a3 : decide (nd < 1) = false := decide_eq_false (by omega)
        have a4 : decide ((256 : Int) ≤ nd) = false := decide_eq_false (by omega)
        have sl0 : s.l = ⟨96, ⟨[], []⟩, []⟩ := Cs.l
        try simp (maxSteps := 2000000) only [↓RG, RP, RB, BEq.rfl, Int.reduceEq, Int.reduceLT, Int.reduceLE, Nat.reduceEqDiff, a3, ewl, a4]
        refine s_view_Cells (b := b1) (s := ⟨s.size, s.k, s.l, nd⟩) fun u3 hu3 => ?_
        have h0 : (s.l.cells.length : Int) = 0 := by rw [sl0]; rfl
        try simp (maxSteps := 2000000) only [↓RG, RP, RB, BEq.rfl, Int.reduceEq, Int.reduceLT, Int.reduceLE, Nat.reduceEqDiff, h0]
        refine s_view_Frees (b := b1) (s := ⟨s.size, s.k, s.l, nd⟩) (by rw [sl0]; show 0 ≤ _; omega) fun u4 hu4 => ?_
        have h1 : (s.l.frees.length : Int) = 0 := by rw [sl0]; rfl
        try simp (maxSteps := 2000000) only [↓RG, RP, RB, BEq.rfl, Int.reduceEq, Int.reduceLT, Int.reduceLE, Nat.reduceEqDiff, h1]
        refine s_view_Depth (b := b1) (s := ⟨s.size, s.k, s.l, nd⟩) ?_
        have hd : ((s.l.up.length + 1 : Nat) : Int) = 1 := by rw [sl0]; rfl
        rw [hd]
        obtain ⟨m, rfl⟩ : ∃ m : Nat, nd = m := ⟨nd.toNat, by omega⟩
        have hmw : m < w.length := by rw [hw.1]; omega
        have em := elem_of hmw
        have ew : hOf w (m : Int) = w[m] := by
          show w.getD ((m : Int).toNat) 0 = _
          rw [Int.toNat_natCast, List.getD_eq_getElem?_getD, List.getElem?_eq_getElem hmw]; rfl
        rw [ew] at m1 m2 m3
        generalize w[m] = xw at em m1 m2 m3
        try simp (maxSteps := 2000000) only [↓RG, RP, RB, BEq.rfl, Int.reduceEq, Int.reduceLT, Int.reduceLE, Nat.reduceEqDiff]
        refine s_view_Know (b := b1) (s := ⟨s.size, s.k, s.l, (m : Int)⟩) (by simp only; omega) ?_
        rw [m1]
        try simp (maxSteps := 2000000) only [↓RG, RP, RB, BEq.rfl, Int.reduceEq, Int.reduceLT, Int.reduceLE, Nat.reduceEqDiff]
        refine s_view_Known (b := b1) (s := ⟨s.size, s.k ++ [⟨(m : Int), xw⟩], s.l, (m : Int)⟩) (by simp; omega) fun u5 hu5 => ?_
        have e5 : ((s.k ++ [(⟨(m : Int), xw⟩ : TCell)]).length : Int) = (s.k.length : Int) + 1 := by simp
        have e7 : IntKind.wrap .i64 ((s.k.length : Int) + 1) = (s.k.length : Int) + 1 := wi64 (by omega) (by omega)
        have e8 : decide ((s.k.length : Int) + 1 = (s.k.length : Int) + 1) = true := decide_eq_true rfl
        try simp (maxSteps := 2000000) only [↓RG, RP, RB, BEq.rfl, Int.reduceEq, Int.reduceLT, Int.reduceLE, Nat.reduceEqDiff, e5, e7, e8]
        have h := hJ2 ⟨s.size, s.k ++ [⟨(m : Int), xw⟩], s.l, (m : Int)⟩ ⟨m2, m3⟩ (by simp; omega)
        simp only [e5] at h
        exact h.sub
      · rw [q4]
        cases q5
        have a2 : decide (fe = 11) = false := decide_eq_false q1
        try simp (maxSteps := 2000000) only [↓RG, RP, RB, BEq.rfl, Int.reduceEq, Int.reduceLT, Int.reduceLE, Nat.reduceEqDiff]
        refine G.new fun x47 => ?_
        try simp (maxSteps := 2000000) only [↓RG, RP, RB, BEq.rfl, Int.reduceEq, Int.reduceLT, Int.reduceLE, Nat.reduceEqDiff, a2]
        refine s_view_Cells (b := b1) (s := outV s cs f') fun u3 hu3 => ?_
        refine s_view_Cells (b := b2) (s := outV (vAll w 96) cs f') fun u4 hu4 => ?_
        refine s_book_Same_api_Cell (xs := cs) (ys := cs) (by omega) ?_
        rw [decide_eq_true (rfl : cs = cs)]
        try simp (maxSteps := 2000000) only [↓RG, RP, RB, BEq.rfl, Int.reduceEq, Int.reduceLT, Int.reduceLE, Nat.reduceEqDiff]
        have hfl : (outV s cs f').l.frees = f' := by show freesR ([].reverse ++ [(⟨cs, f'⟩ : Lv)]) = f'; simp [freesR]
        refine s_view_Frees (b := b1) (s := outV s cs f') (by rw [hfl]; omega) fun u5 hu5 => ?_
        refine s_view_Frees (b := b2) (s := outV (vAll w 96) cs f') (by show (outV s cs f').l.frees.length ≤ _; rw [hfl]; omega) fun u6 hu6 => ?_
        refine s_book_Same_int (xs := (outV s cs f').l.frees) (ys := (outV s cs f').l.frees) (by rw [hfl]; omega) ?_
        rw [decide_eq_true (rfl : (outV s cs f').l.frees = (outV s cs f').l.frees)]
        try simp (maxSteps := 2000000) only [↓RG, RP, RB, BEq.rfl, Int.reduceEq, Int.reduceLT, Int.reduceLE, Nat.reduceEqDiff]
        refine s_view_Depth (b := b1) (s := outV s cs f') ?_
        have hd : ((((outV s cs f').l.up.length + 1 : Nat)) : Int) = 1 := rfl
        rw [hd]
        try simp (maxSteps := 2000000) only [↓RG, RP, RB, BEq.rfl, Int.reduceEq, Int.reduceLT, Int.reduceLE, Nat.reduceEqDiff]
        exact hK.sub
end
end Go.Proofs.YtokbiojkpldfeaaGreat.S
