/-
  CHAPTER 18: TableApart.
-/
import Derived.Test.YtokbiojkpldfeaaGreatPlF
import Derived.Test.YtokbiojkpldfeaaGreatStepAny
import Derived.Test.YtokbiojkpldfeaaGreatBlocks
import Derived.Test.YtokbiojkpldfeaaGreatKnow
namespace Go.Proofs.YtokbiojkpldfeaaGreat.S
open Go Go.Proofs
set_option linter.unusedVariables false
set_option linter.unusedSimpArgs false

/-! ### which words are another object's -/
theorem contig_len : ∀ {l : List Bk} {p e : Int}, Contig p l e → p + 3 * (l.length : Int) ≤ e := by
  intro l
  induction l with
  | nil => intro p e h; have h : p = e := h; simp; omega
  | cons b l ih => intro p e h; have := ih h.2.2.2; have := bsz_le (c := b.2); simp only [List.length_cons]; omega
def OthOk (oth : List Bool) (B : List Bk) : Prop := ∀ p : Nat, oth[p]? = some true → ∃ b ∈ B, Body b (p : Int)
def ScanOk (oth : List Bool) (B sh : List Bk) (k : Nat) : Prop := ∀ p : Nat, oth[p]? = some true → ∃ (j : Nat) (b : Bk), sh[j]? = some b ∧ Body b (p : Int) ∧ (k ≤ j ∨ b ∈ B)
def ScanIn (oth : List Bool) (B sh : List Bk) (k : Nat) (at_ : Int) : Prop := ∀ p : Nat, oth[p]? = some true → ∃ (j : Nat) (b : Bk), sh[j]? = some b ∧ Body b (p : Int) ∧ (k + 1 ≤ j ∨ b ∈ B ∨ (j = k ∧ at_ ≤ (p : Int)))
theorem scan_begin {oth : List Bool} {B0 B sh sh0 : List Bk} (h : OthOk oth B0) (h1 : ∀ b ∈ B0, b ∈ sh0) (h2 : sh0 <+: sh) : ScanOk oth B sh 0 := fun p hp => by
  obtain ⟨b, hb, hp2⟩ := h p hp
  obtain ⟨j, hj⟩ := List.mem_iff_getElem?.1 (h2.subset (h1 b hb))
  exact ⟨j, b, hj, hp2, .inl (Nat.zero_le _)⟩
theorem scan_end {oth : List Bool} {B sh : List Bk} (h : ScanOk oth B sh sh.length) : OthOk oth B := fun p hp => by
  obtain ⟨j, b, hj, hb, h2⟩ := h p hp
  have := (List.getElem?_eq_some_iff.1 hj).1
  rcases h2 with h2 | h2
  · omega
  · exact ⟨b, h2, hb⟩
theorem scan_inn {oth : List Bool} {B sh : List Bk} {k : Nat} {b : Bk} (hk : sh[k]? = some b) (h : ScanOk oth B sh k) : ScanIn oth B sh k b.1 := fun p hp => by
  obtain ⟨j, b', hj, hb, h2⟩ := h p hp
  refine ⟨j, b', hj, hb, ?_⟩
  rcases h2 with h2 | h2
  · by_cases e : j = k
    · subst e
      rw [hk] at hj
      cases hj
      exact .inr (.inr ⟨rfl, hb.1⟩)
    · exact .inl (by omega)
  · exact .inr (.inl h2)
theorem scan_out {oth : List Bool} {B sh : List Bk} {k : Nat} {b : Bk} {at_ : Int} (hk : sh[k]? = some b) (ha : b.1 + bsz b.2 ≤ at_) (h : ScanIn oth B sh k at_) : ScanOk oth B sh (k + 1) := fun p hp => by
  obtain ⟨j, b', hj, hb, h2⟩ := h p hp
  refine ⟨j, b', hj, hb, ?_⟩
  rcases h2 with h2 | h2 | ⟨rfl, h2⟩
  · exact .inl h2
  · exact .inr h2
  · rw [hk] at hj
    cases hj
    have := hb.2
    omega
theorem scan_set {oth : List Bool} {B sh : List Bk} {k m : Nat} {b : Bk} (hk : sh[k]? = some b) (hb : Body b (m : Int)) (hm : m < oth.length) (h : ScanIn oth B sh k (m : Int)) : ScanIn (oth.set m (decide (b ∈ B))) B sh k ((m : Int) + 1) := fun p hp => by
  by_cases e : m = p
  · subst e
    rw [List.getElem?_set_self hm] at hp
    exact ⟨k, b, hk, hb, .inr (.inl (by simpa using hp))⟩
  · rw [List.getElem?_set_ne e] at hp
    obtain ⟨j, b', hj, hb', h2⟩ := h p hp
    refine ⟨j, b', hj, hb', ?_⟩
    rcases h2 with h2 | h2 | ⟨h2, h3⟩
    · exact .inl h2
    · exact .inr (.inl h2)
    · exact .inr (.inr ⟨h2, by omega⟩)

section
variable {w0 : Base} {L M : List Asn} {K : KV} {F : World → Prop} {C : Asn → List Asn} {b : Nat}
/-- what holds while the objects are filled: i calls are done, n of them are the first one's -/
def Mid (i n : Nat) (w : List Int) (p : List TPair × List TPair) (oth : List Bool) : Prop :=
  oth.length = 257 ∧ ∃ o o2 sh fl, ArenaW (hOf w) (obB o ++ obB o2) [] sh fl ∧ InvS sh w 8 9 o o2 p.1 p.2 ∧ (i ≤ n → o2 = none) ∧ OthOk oth (obB o)
theorem mid_fresh (n : Nat) : Mid 0 n (fresh 256) ([], []) (List.replicate 257 false) := by
  obtain ⟨sh, fl, A, h⟩ := fresh_ok.ar
  refine ⟨List.length_replicate, none, none, sh, fl, A, { fresh_ok with ar := ⟨sh, fl, A, List.prefix_refl _⟩ }, fun _ => rfl, fun p hp => ?_⟩
  have := List.mem_of_getElem? hp
  have := List.eq_of_mem_replicate this
  cases this

set_option maxHeartbeats 2000000 in
theorem s_law18_TableApart {l l2 : Value} {qs rs : List TCall} {c : TCall} [r : Arg w0 l tCallE qs] [r2 : Arg w0 l2 tCallE rs] (hr0 : ∀ x ∈ qs, good TCallK (tCallE.enc x)) (hr1 : ∀ x ∈ rs, good TCallK (tCallE.enc x)) (hs2 : good TCallK (tCallE.enc c)) (hl0 : qs.length * 32 ≤ 140737488351232) (hl1 : rs.length * 32 ≤ 140737488351232) (hK : G w0 L (K (.bool true))) : G w0 L (CP Tryz.prog Fn.law18_TableApart [l, l2, .agg (TCall.cells c).toArray] K) := by
  have hc := good_call hs2
  refine C_law18_TableApart ?_
  unfold S_law18_TableApart
  try simp (maxSteps := 2000000) only [fuse_and, fuse_or, fuse_step, fuse_pair, fuse_in, andP_true]
  refine G.box fun x1 => ?_
  refine s_law18_TableRuns ?_
  try simp (maxSteps := 2000000) only [↓RG, RP, RB, BEq.rfl, Int.reduceEq, Int.reduceLT, Int.reduceLE, Nat.reduceEqDiff]
  refine s_arena_Fresh fun u hu => ?_
  try simp (maxSteps := 2000000) only [↓RG, RP, RB, BEq.rfl, Int.reduceEq, Int.reduceLT, Int.reduceLE, Nat.reduceEqDiff]
  refine G.newObj fun b => ?_
  refine G.make (n := 257) boolE false rfl (by simp [maxLen]) (by omega) fun x7 hx7 => ?_
  refine G.pickAll (As := [ob ObjR b ([], []), sl wordE u (fresh 256), sl boolE x7 (List.replicate 257 false), own x1 (TCall.cells c)]) ?_
  show G w0 (ob ObjR b ([], []) :: sl wordE u (fresh 256) :: sl boolE x7 (List.replicate 257 false) :: own x1 (TCall.cells c) :: L) _
  refine G.loop2 (σ := Value × Nat × List Int × (List TPair × List TPair) × List Bool) (fun z => z.1) (fun z => i64 z.2.1) (fun z => ob ObjR b z.2.2.2.1 :: sl wordE z.1 z.2.2.1 :: sl boolE x7 z.2.2.2.2 :: own x1 (TCall.cells c) :: L) (fun z => Cells z.1 [z.1] ∧ z.2.1 ≤ 24 ∧ Mid z.2.1 qs.length z.2.2.1 z.2.2.2.1 z.2.2.2.2) (fun z => 24 - z.2.1) (u, 0, fresh 256, ([], []), List.replicate 257 false) rfl rfl rfl ⟨hu, by simp, mid_fresh _⟩ ?_
  rintro ⟨u, j, w, p, oth⟩ ⟨hu, hj, hmid⟩ J hJ
  simp only at hu hj hmid hJ ⊢
  have es : IntKind.wrap .i64 ((qs.length : Int) + (rs.length : Int)) = (qs.length : Int) + (rs.length : Int) := wi64 (by omega) (by omega)
  by_cases g1 : j < qs.length + rs.length ∧ j < 24
  · have g2 : decide ((j : Int) < (qs.length : Int) + (rs.length : Int)) = true := decide_eq_true (by omega)
    have g3 : decide ((j : Int) < 24) = true := decide_eq_true (by omega)
    try simp (maxSteps := 2000000) only [↓RG, RP, RB, BEq.rfl, Int.reduceEq, Int.reduceLT, Int.reduceLE, Nat.reduceEqDiff, es, g2, g3]
    refine G.new fun x18 => ?_
    try simp (maxSteps := 2000000) only [↓RG, RP, RB, BEq.rfl, Int.reduceEq, Int.reduceLT, Int.reduceLE, Nat.reduceEqDiff]
    refine G.joini0 ?_
    obtain ⟨hol, o, o2, sh, fl, A, I, hn, hoth⟩ := hmid
    by_cases g4 : j < qs.length
    · have g5 : decide ((j : Int) < (qs.length : Int)) = true := decide_eq_true (by omega)
      have e := elem_of g4
      have hgood := good_call (hr0 qs[j] (List.getElem_mem g4))
      generalize qs[j] = q at e hgood
      try simp (maxSteps := 2000000) only [↓RG, RP, RB, BEq.rfl, Int.reduceEq, Int.reduceLT, Int.reduceLE, Nat.reduceEqDiff, g5]
      refine s_law18_mine (v := .agg (TCall.cells q).toArray) (c := q) ?_
      try simp (maxSteps := 2000000) only [↓RG, RP, RB, BEq.rfl, Int.reduceEq, Int.reduceLT, Int.reduceLE, Nat.reduceEqDiff]
      obtain rfl : o2 = none := hn (by omega)
      obtain ⟨w', o', L', hS, I'⟩ := step_ok (c := m0 q 0) I ⟨by omega, by omega⟩ ⟨by omega, by omega⟩ (by omega) hgood
      have hlen := I.len
      have hlen' := I'.len
      refine G.pickAll (As := [ob ObjR b p, sl wordE u w]) ?_
      show G w0 (ob ObjR b p :: sl wordE u w :: own x18 [i64 (mine q).what, i64 0, u64 (mine q).k, u64 (mine q).x] :: sl boolE x7 oth :: own x1 (TCall.cells c) :: L) _
      refine s_step_2 (p := p) (c := m0 q 0) hu I.ok (m0_place q 0) (m0_which q 0) (by omega) (by omega) hS fun u2 hu2 hw2 => ?_
      obtain ⟨sh', fl', A', hpre⟩ := I'.ar
      try simp (maxSteps := 2000000) only [↓RG, RP, RB, BEq.rfl, Int.reduceEq, Int.reduceLT, Int.reduceLE, Nat.reduceEqDiff]
      refine s_arena_Blocks hw2 A' fun u3 hu3 => ?_
      try simp (maxSteps := 2000000) only [↓RG, RP, RB, BEq.rfl, Int.reduceEq, Int.reduceLT, Int.reduceLE, Nat.reduceEqDiff]
      have hbl : (blOf (obB o' ++ obB none) sh').length = sh'.length := by simp [blOf]
      have hshl := contig_len A'.parted
      have hsht := A'.top
      have hscan : ScanOk oth (obB o' ++ obB none) sh' 0 := scan_begin hoth (fun b hb => A.sub b (by simp [hb])) hpre
      refine G.sub (L' := sl boolE x7 oth :: sl tBlockE u3 (blOf (obB o' ++ obB none) sh') :: ob ObjR b (L', p.2) :: sl wordE u2 w' :: own x1 (TCall.cells c) :: L) ?_
      refine G.loop1 (σ := Nat × List Bool) (fun y => i64 y.1) (fun y => sl boolE x7 y.2 :: sl tBlockE u3 (blOf (obB o' ++ obB none) sh') :: ob ObjR b (L', p.2) :: sl wordE u2 w' :: own x1 (TCall.cells c) :: L) (fun y => y.1 ≤ sh'.length ∧ y.2.length = 257 ∧ ScanOk y.2 (obB o' ++ obB none) sh' y.1) (fun y => sh'.length - y.1) (0, oth) rfl rfl ⟨Nat.zero_le _, hol, hscan⟩ ?_
      rintro ⟨k, ot⟩ ⟨hk, hol2, hsc⟩ J2 hJ2
      simp only at hk hol2 hsc hJ2 ⊢
      by_cases h1 : k < sh'.length
      · have h2 : decide ((k : Int) < ((blOf (obB o' ++ obB none) sh').length : Int)) = true := decide_eq_true (by rw [hbl]; omega)
        have hbk : sh'[k]? = some sh'[k] := List.getElem?_eq_getElem h1
        have e := elem_of (xs := blOf (obB o' ++ obB none) sh') (k := k) (by rw [hbl]; exact h1)
        have ex : (blOf (obB o' ++ obB none) sh')[k]'(by rw [hbl]; exact h1) = ⟨sh'[k].1, sh'[k].2, decide (sh'[k] ∈ obB o' ++ obB none)⟩ := by simp [blOf]
        rw [ex] at e
        have hm := A'.mem (List.getElem_mem h1)
        generalize sh'[k] = bk at hbk e hm
        obtain ⟨m, em⟩ : ∃ m : Nat, bk.1 = m := ⟨bk.1.toNat, by omega⟩
        have hz := bsz_le (c := bk.2)
        rw [em] at e
        try simp (maxSteps := 2000000) only [↓RG, RP, RB, BEq.rfl, Int.reduceEq, Int.reduceLT, Int.reduceLE, Nat.reduceEqDiff, g5, h2]
        refine G.loop1 (σ := Nat × List Bool) (fun y => i64 y.1) (fun y => sl boolE x7 y.2 :: sl tBlockE u3 (blOf (obB o' ++ obB none) sh') :: ob ObjR b (L', p.2) :: sl wordE u2 w' :: own x1 (TCall.cells c) :: L) (fun y => m ≤ y.1 ∧ (y.1 : Int) ≤ m + bsz bk.2 ∧ y.2.length = 257 ∧ ScanIn y.2 (obB o' ++ obB none) sh' k y.1) (fun y => 1000 - y.1) (m, ot) rfl rfl ⟨Nat.le_refl _, by simp only; omega, hol2, by have := scan_inn hbk hsc; rw [em] at this; exact this⟩ ?_
        rintro ⟨at_, ot⟩ ⟨hat, hat2, hol3, hsi⟩ J3 hJ3
        simp only at hat hat2 hol3 hsi hJ3 ⊢
        refine G.drew ?_
        try simp (maxSteps := 2000000) only [↓RG, RP, RB, BEq.rfl, Int.reduceEq, Int.reduceLT, Int.reduceLE, Nat.reduceEqDiff]
        refine s_arena_Size (c := bk.2) ?_
        rw [aSize_ok hm.2.2.2.1 hm.2.2.2.2]
        have ew : IntKind.wrap .i64 ((m : Int) + bsz bk.2) = m + bsz bk.2 := wi64 (by omega) (by omega)
        by_cases h3 : (at_ : Int) < m + bsz bk.2
        · have h4 : decide ((at_ : Int) < (m : Int) + bsz bk.2) = true := decide_eq_true h3
          have h5 : decide ((at_ : Int) < (ot.length : Int)) = true := decide_eq_true (by rw [hol3]; omega)
          have hat3 : at_ < ot.length := by rw [hol3]; omega
          have eo := elem_of hat3
          try simp (maxSteps := 2000000) only [↓RG, RP, RB, BEq.rfl, Int.reduceEq, Int.reduceLT, Int.reduceLE, Nat.reduceEqDiff, ew, h4, h5]
          rw [wsucc (by omega)]
          have hset := scan_set hbk (by unfold Body; omega) hat3 hsi
          exact hJ3 (at_ + 1, ot.set at_ (decide (bk ∈ obB o' ++ obB none))) ⟨by simp only; omega, by simp only; omega, by simpa using hol3, by simpa using hset⟩ (by simp only; omega)
        · have h4 : decide ((at_ : Int) < (m : Int) + bsz bk.2) = false := decide_eq_false h3
          try simp (maxSteps := 2000000) only [↓RG, RP, RB, BEq.rfl, Int.reduceEq, Int.reduceLT, Int.reduceLE, Nat.reduceEqDiff, ew, h4]
          rw [wsucc (by omega)]
          exact hJ2 (k + 1, ot) ⟨by simp only; omega, hol3, scan_out hbk (by omega) hsi⟩ (by simp only; omega)
      · have h2 : decide ((k : Int) < ((blOf (obB o' ++ obB none) sh').length : Int)) = false := decide_eq_false (by rw [hbl]; omega)
        try simp (maxSteps := 2000000) only [↓RG, RP, RB, BEq.rfl, Int.reduceEq, Int.reduceLT, Int.reduceLE, Nat.reduceEqDiff, g5, h2]
        rw [wsucc (by omega)]
        have hk2 : k = sh'.length := by omega
        rw [hk2] at hsc
        have hend := scan_end hsc
        have hB : obB o' ++ obB none = obB o' := by simp [obB]
        have hok : OthOk ot (obB o') := by rw [hB] at hend; exact hend
        exact (hJ (u2, j + 1, w', (L', p.2), ot) ⟨hu2, by simp only; omega, hol2, o', none, sh', fl', A', { I' with ar := ⟨sh', fl', A', List.prefix_refl _⟩ }, fun _ => rfl, hok⟩ (by simp only; omega)).sub
    · have g5 : decide ((j : Int) < (qs.length : Int)) = false := decide_eq_false (by omega)
      have hjr : j - qs.length < rs.length := by omega
      have e := elem_of hjr
      have hgood := good_call (hr1 rs[j - qs.length] (List.getElem_mem hjr))
      generalize rs[j - qs.length] = q at e hgood
      have ed : IntKind.wrap .i64 ((j : Int) - (qs.length : Int)) = ((j - qs.length : Nat) : Int) := by rw [show (j : Int) - (qs.length : Int) = ((j - qs.length : Nat) : Int) by omega]; exact wi64 (by omega) (by omega)
      try simp (maxSteps := 2000000) only [↓RG, RP, RB, BEq.rfl, Int.reduceEq, Int.reduceLT, Int.reduceLE, Nat.reduceEqDiff, g5, ed]
      refine s_law18_mine (v := .agg (TCall.cells q).toArray) (c := q) ?_
      try simp (maxSteps := 2000000) only [↓RG, RP, RB, BEq.rfl, Int.reduceEq, Int.reduceLT, Int.reduceLE, Nat.reduceEqDiff]
      have I2 := I.swap
      obtain ⟨w', o', L', hS, I'⟩ := step_ok (c := m0 q 1) I2 ⟨by omega, by omega⟩ ⟨by omega, by omega⟩ (by omega) hgood
      have hlen := I2.len
      have hlen' := I'.len
      refine G.pickAll (As := [ob ObjR b p, sl wordE u w]) ?_
      show G w0 (ob ObjR b p :: sl wordE u w :: own x18 [i64 (mine q).what, i64 1, u64 (mine q).k, u64 (mine q).x] :: sl boolE x7 oth :: own x1 (TCall.cells c) :: L) _
      refine s_step_3 (p := p) (c := m0 q 1) hu I.ok (m0_place q 1) (m0_which q 1) (by omega) (by omega) hS fun u2 hu2 hw2 => ?_
      have I3 := I'.swap
      obtain ⟨sh', fl', A', hpre⟩ := I3.ar
      try simp (maxSteps := 2000000) only [↓RG, RP, RB, BEq.rfl, Int.reduceEq, Int.reduceLT, Int.reduceLE, Nat.reduceEqDiff]
      refine s_arena_Blocks hw2 A' fun u3 hu3 => ?_
      try simp (maxSteps := 2000000) only [↓RG, RP, RB, BEq.rfl, Int.reduceEq, Int.reduceLT, Int.reduceLE, Nat.reduceEqDiff]
      refine G.sub (L' := ob ObjR b (p.1, L') :: sl wordE u2 w' :: sl boolE x7 oth :: own x1 (TCall.cells c) :: L) ?_
      refine G.loop1 (σ := Nat) (fun y => i64 y) (fun _ => ob ObjR b (p.1, L') :: sl wordE u2 w' :: sl boolE x7 oth :: own x1 (TCall.cells c) :: L) (fun _ => True) (fun y => 0) 0 rfl rfl trivial ?_
      intro k _ J2 _
      try simp (maxSteps := 2000000) only [↓RG, RP, RB, BEq.rfl, Int.reduceEq, Int.reduceLT, Int.reduceLE, Nat.reduceEqDiff, g5]
      rw [wsucc (by omega)]
      exact hJ (u2, j + 1, w', (p.1, L'), oth) ⟨hu2, by simp only; omega, hol, o, o', sh', fl', A', { I3 with ar := ⟨sh', fl', A', List.prefix_refl _⟩ }, fun h => absurd (show j + 1 ≤ qs.length from h) (by omega), hoth⟩ (by simp only; omega)
  · have hb : (decide ((j : Int) < (qs.length : Int) + (rs.length : Int)) = true ∧ decide ((j : Int) < 24) = false) ∨ decide ((j : Int) < (qs.length : Int) + (rs.length : Int)) = false := by
      by_cases h1 : j < qs.length + rs.length
      · exact .inl ⟨decide_eq_true (by omega), decide_eq_false (by omega)⟩
      · exact .inr (decide_eq_false (by omega))
    rcases hb with ⟨g2, g3⟩ | g2
    · try simp (maxSteps := 2000000) only [↓RG, RP, RB, BEq.rfl, Int.reduceEq, Int.reduceLT, Int.reduceLE, Nat.reduceEqDiff, es, g2, g3]
      obtain ⟨hol, o, o2, sh, fl, A, I, hn, hoth⟩ := hmid
      refine s_law18_mine (v := .agg (TCall.cells c).toArray) (c := c) ?_
      try simp (maxSteps := 2000000) only [↓RG, RP, RB, BEq.rfl, Int.reduceEq, Int.reduceLT, Int.reduceLE, Nat.reduceEqDiff]
      refine s_keep_Call_Place (v := .agg (TCall.cells (m0 c 1)).toArray) (c := m0 c 1) ?_
      have ep : cPlace (m0 c 1) = 3 := m0_place c 1
      rw [ep]
      have hw := I.ok
      have ewl : ((w.length : Nat) : Int) = 256 := by rw [hw.1]; rfl
      have e9 : IntKind.wrap .i64 (6 + 3) = 9 := by decide
      have e8 : IntKind.wrap .i64 (9 - 1) = 8 := by decide
      have eo := elem_of (xs := oth) (k := 8) (by rw [hol]; omega)
      have ec8 : (8 : Int) = ((8 : Nat) : Int) := rfl
      try simp (maxSteps := 2000000) only [↓RG, RP, RB, BEq.rfl, Int.reduceEq, Int.reduceLT, Int.reduceLE, Nat.reduceEqDiff, e9]
      rw [e8, ec8]
      try simp (maxSteps := 2000000) only [↓RG, RP, RB, BEq.rfl, Int.reduceEq, Int.reduceLT, Int.reduceLE, Nat.reduceEqDiff]
      have hfalse : ∀ m : Nat, m < 257 → Cx.T ⟨8, obB o, [], hOf w⟩ (m : Int) → (oth.set 8 true)[m]? = some false := fun m hm tm => by
        have hlen : (oth.set 8 true).length = 257 := by rw [List.length_set]; exact hol
        have hg := List.getElem?_eq_getElem (l := oth.set 8 true) (i := m) (by rw [hlen]; exact hm)
        rw [hg]
        cases hv : (oth.set 8 true)[m]'(by rw [hlen]; exact hm) with
        | false => rfl
        | true =>
          exfalso
          rw [hv] at hg
          by_cases e : 8 = m
          · subst e; exact tm.2.2.1 rfl
          · rw [List.getElem?_set_ne e] at hg
            obtain ⟨bk, hbk, hbd⟩ := hoth m hg
            exact tm.2.2.2 bk hbk hbd
      generalize hot : oth.set 8 true = ot at hfalse
      have hotl : ot.length = 257 := by rw [← hot, List.length_set]; exact hol
      try simp (maxSteps := 2000000) only [↓RG, RP, RB, BEq.rfl, Int.reduceEq, Int.reduceLT, Int.reduceLE, Nat.reduceEqDiff, ewl]
      refine s_view_New fun b1 => ?_
      try simp (maxSteps := 2000000) only [↓RG, RP, RB, BEq.rfl, Int.reduceEq, Int.reduceLT, Int.reduceLE, Nat.reduceEqDiff]
      refine G.joini0 ?_
      show G w0 (ob ViewR b1 (vNew 256 96) :: ob ObjR b p :: sl wordE u w :: sl boolE x7 ot :: own x1 (TCall.cells (m0 c 1)) :: L) _
      refine G.sub (L' := ob ViewR b1 (vNew 256 96) :: sl boolE x7 ot :: sl wordE u w :: own x1 (TCall.cells (m0 c 1)) :: L) ?_
      have hcp := fun (s : VwS) (Cs : Clean s) hsub => call_part (s := s) (t := ⟨256, tQ ⟨8, obB o, [], hOf w⟩ w, ⟨96, ⟨[], []⟩, []⟩, 0⟩) (c := m0 c 1) I.swap ⟨by omega, by omega⟩ ⟨by omega, by omega⟩ (by omega) hc (tQ ⟨8, obB o, [], hOf w⟩ w) Cs tQ_clean rfl hsub (fun a ta => tQ_look (X := ⟨8, obB o, [], hOf w⟩) ta)
      refine G.loop1 (σ := VwS) (fun s => i64 (s.k.length : Nat)) (fun s => ob ViewR b1 s :: sl boolE x7 ot :: sl wordE u w :: own x1 (TCall.cells (m0 c 1)) :: L) (fun s => Clean s ∧ ∀ a x, lookC s.k a = some x → lookC (tQ ⟨8, obB o, [], hOf w⟩ w) a = some x) (fun s => 256 - s.k.length) (vNew 256 96) rfl rfl ⟨Clean.new, fun a x h => by cases h⟩ ?_
      rintro s ⟨Cs, hsub⟩ J2 hJ2
      have hfew := clean_few Cs
      have a1 : decide ((s.k.length : Int) < 256) = true := decide_eq_true (by omega)
      try simp (maxSteps := 2000000) only [↓RG, RP, RB, BEq.rfl, Int.reduceEq, Int.reduceLT, Int.reduceLE, Nat.reduceEqDiff, a1]
      refine s_law18_call (b := b1) (s := s) (v := .agg (TCall.cells (m0 c 1)).toArray) (c := m0 c 1) (by rw [Cs.l]; show 0 ≤ _; omega) ?_
      rcases hcp s Cs hsub with ⟨nd, it, e1, n1, n2, n3, n4⟩ | ⟨cs, f', it, er2, q1, q2, q3, q4, q5⟩
      · rw [e1]
        have tn := tQ_T n4
        have k1 := tQ_look (w := w) tn
        obtain ⟨m1, m2, m3⟩ := know_next Cs hsub n1 n2 n3 k1
        try simp (maxSteps := 2000000) only [↓RG, RP, RB, BEq.rfl, Int.reduceEq, Int.reduceLT, Int.reduceLE, Nat.reduceEqDiff]
        refine G.new fun x47 => ?_
        try simp (maxSteps := 2000000) only [↓RG, RP, RB, BEq.rfl, Int.reduceEq, Int.reduceLT, Int.reduceLE, Nat.reduceEqDiff]
        refine s_view_Need (b := b1) (s := ⟨s.size, s.k, s.l, nd⟩) ?_
        have a3 : decide (nd < 1) = false := decide_eq_false (by omega)
        have a4 : decide ((256 : Int) ≤ nd) = false := decide_eq_false (by omega)
        obtain ⟨m, rfl⟩ : ∃ m : Nat, nd = m := ⟨nd.toNat, by omega⟩
        have hmw : m < w.length := by rw [hw.1]; omega
        have em := elem_of hmw
        have ew : hOf w (m : Int) = w[m] := by
          show w.getD ((m : Int).toNat) 0 = _
          rw [Int.toNat_natCast, List.getD_eq_getElem?_getD, List.getElem?_eq_getElem hmw]; rfl
        rw [ew] at m1 m2 m3
        generalize w[m] = xw at em m1 m2 m3
        have eot : Elem ot m false := ⟨hfalse m (by omega) tn⟩
        try simp (maxSteps := 2000000) only [↓RG, RP, RB, BEq.rfl, Int.reduceEq, Int.reduceLT, Int.reduceLE, Nat.reduceEqDiff, a3, ewl, a4]
        refine s_view_Know (b := b1) (s := ⟨s.size, s.k, s.l, (m : Int)⟩) (by simp only; omega) ?_
        rw [m1]
        try simp (maxSteps := 2000000) only [↓RG, RP, RB, BEq.rfl, Int.reduceEq, Int.reduceLT, Int.reduceLE, Nat.reduceEqDiff]
        have e5 : ((s.k ++ [(⟨(m : Int), xw⟩ : TCell)]).length : Int) = (s.k.length : Int) + 1 := by simp
        have e7 : IntKind.wrap .i64 ((s.k.length : Int) + 1) = (s.k.length : Int) + 1 := wi64 (by omega) (by omega)
        rw [e7]
        have h := hJ2 ⟨s.size, s.k ++ [⟨(m : Int), xw⟩], s.l, (m : Int)⟩ ⟨m2, m3⟩ (by simp; omega)
        simp only [e5] at h
        exact h.sub
      · rw [q4]
        have a2 : decide (er2 = 11) = false := decide_eq_false q1
        try simp (maxSteps := 2000000) only [↓RG, RP, RB, BEq.rfl, Int.reduceEq, Int.reduceLT, Int.reduceLE, Nat.reduceEqDiff]
        refine G.new fun x47 => ?_
        try simp (maxSteps := 2000000) only [↓RG, RP, RB, BEq.rfl, Int.reduceEq, Int.reduceLT, Int.reduceLE, Nat.reduceEqDiff, a2]
        refine s_view_Cells (b := b1) (s := outV s cs f') fun u3 hu3 => ?_
        have ecs : (outV s cs f').l.cells = cs := rfl
        rw [ecs]
        refine G.sub (L' := sl tCellE u3 cs :: sl boolE x7 ot :: L) ?_
        refine G.loop1 (σ := Nat) (fun y => i64 y) (fun _ => sl tCellE u3 cs :: sl boolE x7 ot :: L) (fun y => y ≤ cs.length) (fun y => cs.length - y) 0 rfl rfl (Nat.zero_le _) ?_
        intro k hk J4 hJ4
        by_cases h1 : k < cs.length
        · have h2 : decide ((k : Int) < (cs.length : Int)) = true := decide_eq_true (by omega)
          have e := elem_of h1
          have tq := q3 cs[k] (List.getElem_mem h1)
          generalize cs[k] = qc at e tq
          obtain ⟨m, em⟩ : ∃ m : Nat, qc.place = m := ⟨qc.place.toNat, by have := tq.1; omega⟩
          obtain ⟨qp, qw⟩ := qc
          simp only at em tq
          subst em
          have t1 := tq.1
          have t2 := tq.2.1
          have eot : Elem ot m false := ⟨hfalse m (by omega) tq⟩
          have a3 : decide ((m : Int) < 1) = false := decide_eq_false (by omega)
          have a4 : decide ((ot.length : Int) ≤ (m : Int)) = false := decide_eq_false (by rw [hotl]; omega)
          try simp (maxSteps := 2000000) only [↓RG, RP, RB, BEq.rfl, Int.reduceEq, Int.reduceLT, Int.reduceLE, Nat.reduceEqDiff, h2, a3, a4]
          rw [wsucc (by omega)]
          exact hJ4 (k + 1) h1 (by omega)
        · have h2 : decide ((k : Int) < (cs.length : Int)) = false := decide_eq_false (by omega)
          try simp (maxSteps := 2000000) only [↓RG, RP, RB, BEq.rfl, Int.reduceEq, Int.reduceLT, Int.reduceLE, Nat.reduceEqDiff, h2]
          exact hK.sub
    · try simp (maxSteps := 2000000) only [↓RG, RP, RB, BEq.rfl, Int.reduceEq, Int.reduceLT, Int.reduceLE, Nat.reduceEqDiff, es, g2]
      obtain ⟨hol, o, o2, sh, fl, A, I, hn, hoth⟩ := hmid
      refine s_law18_mine (v := .agg (TCall.cells c).toArray) (c := c) ?_
      try simp (maxSteps := 2000000) only [↓RG, RP, RB, BEq.rfl, Int.reduceEq, Int.reduceLT, Int.reduceLE, Nat.reduceEqDiff]
      refine s_keep_Call_Place (v := .agg (TCall.cells (m0 c 1)).toArray) (c := m0 c 1) ?_
      have ep : cPlace (m0 c 1) = 3 := m0_place c 1
      rw [ep]
      have hw := I.ok
      have ewl : ((w.length : Nat) : Int) = 256 := by rw [hw.1]; rfl
      have e9 : IntKind.wrap .i64 (6 + 3) = 9 := by decide
      have e8 : IntKind.wrap .i64 (9 - 1) = 8 := by decide
      have eo := elem_of (xs := oth) (k := 8) (by rw [hol]; omega)
      have ec8 : (8 : Int) = ((8 : Nat) : Int) := rfl
      try simp (maxSteps := 2000000) only [↓RG, RP, RB, BEq.rfl, Int.reduceEq, Int.reduceLT, Int.reduceLE, Nat.reduceEqDiff, e9]
      rw [e8, ec8]
      try simp (maxSteps := 2000000) only [↓RG, RP, RB, BEq.rfl, Int.reduceEq, Int.reduceLT, Int.reduceLE, Nat.reduceEqDiff]
      have hfalse : ∀ m : Nat, m < 257 → Cx.T ⟨8, obB o, [], hOf w⟩ (m : Int) → (oth.set 8 true)[m]? = some false := fun m hm tm => by
        have hlen : (oth.set 8 true).length = 257 := by rw [List.length_set]; exact hol
        have hg := List.getElem?_eq_getElem (l := oth.set 8 true) (i := m) (by rw [hlen]; exact hm)
        rw [hg]
        cases hv : (oth.set 8 true)[m]'(by rw [hlen]; exact hm) with
        | false => rfl
        | true =>
          exfalso
          rw [hv] at hg
          by_cases e : 8 = m
          · subst e; exact tm.2.2.1 rfl
          · rw [List.getElem?_set_ne e] at hg
            obtain ⟨bk, hbk, hbd⟩ := hoth m hg
            exact tm.2.2.2 bk hbk hbd
      generalize hot : oth.set 8 true = ot at hfalse
      have hotl : ot.length = 257 := by rw [← hot, List.length_set]; exact hol
      try simp (maxSteps := 2000000) only [↓RG, RP, RB, BEq.rfl, Int.reduceEq, Int.reduceLT, Int.reduceLE, Nat.reduceEqDiff, ewl]
      refine s_view_New fun b1 => ?_
      try simp (maxSteps := 2000000) only [↓RG, RP, RB, BEq.rfl, Int.reduceEq, Int.reduceLT, Int.reduceLE, Nat.reduceEqDiff]
      refine G.joini0 ?_
      show G w0 (ob ViewR b1 (vNew 256 96) :: ob ObjR b p :: sl wordE u w :: sl boolE x7 ot :: own x1 (TCall.cells (m0 c 1)) :: L) _
      refine G.sub (L' := ob ViewR b1 (vNew 256 96) :: sl boolE x7 ot :: sl wordE u w :: own x1 (TCall.cells (m0 c 1)) :: L) ?_
      have hcp := fun (s : VwS) (Cs : Clean s) hsub => call_part (s := s) (t := ⟨256, tQ ⟨8, obB o, [], hOf w⟩ w, ⟨96, ⟨[], []⟩, []⟩, 0⟩) (c := m0 c 1) I.swap ⟨by omega, by omega⟩ ⟨by omega, by omega⟩ (by omega) hc (tQ ⟨8, obB o, [], hOf w⟩ w) Cs tQ_clean rfl hsub (fun a ta => tQ_look (X := ⟨8, obB o, [], hOf w⟩) ta)
      refine G.loop1 (σ := VwS) (fun s => i64 (s.k.length : Nat)) (fun s => ob ViewR b1 s :: sl boolE x7 ot :: sl wordE u w :: own x1 (TCall.cells (m0 c 1)) :: L) (fun s => Clean s ∧ ∀ a x, lookC s.k a = some x → lookC (tQ ⟨8, obB o, [], hOf w⟩ w) a = some x) (fun s => 256 - s.k.length) (vNew 256 96) rfl rfl ⟨Clean.new, fun a x h => by cases h⟩ ?_
      rintro s ⟨Cs, hsub⟩ J2 hJ2
      have hfew := clean_few Cs
      have a1 : decide ((s.k.length : Int) < 256) = true := decide_eq_true (by omega)
      try simp (maxSteps := 2000000) only [↓RG, RP, RB, BEq.rfl, Int.reduceEq, Int.reduceLT, Int.reduceLE, Nat.reduceEqDiff, a1]
      refine s_law18_call (b := b1) (s := s) (v := .agg (TCall.cells (m0 c 1)).toArray) (c := m0 c 1) (by rw [Cs.l]; show 0 ≤ _; omega) ?_
      rcases hcp s Cs hsub with ⟨nd, it, e1, n1, n2, n3, n4⟩ | ⟨cs, f', it, er2, q1, q2, q3, q4, q5⟩
      · rw [e1]
        have tn := tQ_T n4
        have k1 := tQ_look (w := w) tn
        obtain ⟨m1, m2, m3⟩ := know_next Cs hsub n1 n2 n3 k1
        try simp (maxSteps := 2000000) only [↓RG, RP, RB, BEq.rfl, Int.reduceEq, Int.reduceLT, Int.reduceLE, Nat.reduceEqDiff]
        refine G.new fun x47 => ?_
        try simp (maxSteps := 2000000) only [↓RG, RP, RB, BEq.rfl, Int.reduceEq, Int.reduceLT, Int.reduceLE, Nat.reduceEqDiff]
        refine s_view_Need (b := b1) (s := ⟨s.size, s.k, s.l, nd⟩) ?_
        have a3 : decide (nd < 1) = false := decide_eq_false (by omega)
        have a4 : decide ((256 : Int) ≤ nd) = false := decide_eq_false (by omega)
        obtain ⟨m, rfl⟩ : ∃ m : Nat, nd = m := ⟨nd.toNat, by omega⟩
        have hmw : m < w.length := by rw [hw.1]; omega
        have em := elem_of hmw
        have ew : hOf w (m : Int) = w[m] := by
          show w.getD ((m : Int).toNat) 0 = _
          rw [Int.toNat_natCast, List.getD_eq_getElem?_getD, List.getElem?_eq_getElem hmw]; rfl
        rw [ew] at m1 m2 m3
        generalize w[m] = xw at em m1 m2 m3
        have eot : Elem ot m false := ⟨hfalse m (by omega) tn⟩
        try simp (maxSteps := 2000000) only [↓RG, RP, RB, BEq.rfl, Int.reduceEq, Int.reduceLT, Int.reduceLE, Nat.reduceEqDiff, a3, ewl, a4]
        refine s_view_Know (b := b1) (s := ⟨s.size, s.k, s.l, (m : Int)⟩) (by simp only; omega) ?_
        rw [m1]
        try simp (maxSteps := 2000000) only [↓RG, RP, RB, BEq.rfl, Int.reduceEq, Int.reduceLT, Int.reduceLE, Nat.reduceEqDiff]
        have e5 : ((s.k ++ [(⟨(m : Int), xw⟩ : TCell)]).length : Int) = (s.k.length : Int) + 1 := by simp
        have e7 : IntKind.wrap .i64 ((s.k.length : Int) + 1) = (s.k.length : Int) + 1 := wi64 (by omega) (by omega)
        rw [e7]
        have h := hJ2 ⟨s.size, s.k ++ [⟨(m : Int), xw⟩], s.l, (m : Int)⟩ ⟨m2, m3⟩ (by simp; omega)
        simp only [e5] at h
        exact h.sub
      · rw [q4]
        have a2 : decide (er2 = 11) = false := decide_eq_false q1
        try simp (maxSteps := 2000000) only [↓RG, RP, RB, BEq.rfl, Int.reduceEq, Int.reduceLT, Int.reduceLE, Nat.reduceEqDiff]
        refine G.new fun x47 => ?_
        try simp (maxSteps := 2000000) only [↓RG, RP, RB, BEq.rfl, Int.reduceEq, Int.reduceLT, Int.reduceLE, Nat.reduceEqDiff, a2]
        refine s_view_Cells (b := b1) (s := outV s cs f') fun u3 hu3 => ?_
        have ecs : (outV s cs f').l.cells = cs := rfl
        rw [ecs]
        refine G.sub (L' := sl tCellE u3 cs :: sl boolE x7 ot :: L) ?_
        refine G.loop1 (σ := Nat) (fun y => i64 y) (fun _ => sl tCellE u3 cs :: sl boolE x7 ot :: L) (fun y => y ≤ cs.length) (fun y => cs.length - y) 0 rfl rfl (Nat.zero_le _) ?_
        intro k hk J4 hJ4
        by_cases h1 : k < cs.length
        · have h2 : decide ((k : Int) < (cs.length : Int)) = true := decide_eq_true (by omega)
          have e := elem_of h1
          have tq := q3 cs[k] (List.getElem_mem h1)
          generalize cs[k] = qc at e tq
          obtain ⟨m, em⟩ : ∃ m : Nat, qc.place = m := ⟨qc.place.toNat, by have := tq.1; omega⟩
          obtain ⟨qp, qw⟩ := qc
          simp only at em tq
          subst em
          have t1 := tq.1
          have t2 := tq.2.1
          have eot : Elem ot m false := ⟨hfalse m (by omega) tq⟩
          have a3 : decide ((m : Int) < 1) = false := decide_eq_false (by omega)
          have a4 : decide ((ot.length : Int) ≤ (m : Int)) = false := decide_eq_false (by rw [hotl]; omega)
          try simp (maxSteps := 2000000) only [↓RG, RP, RB, BEq.rfl, Int.reduceEq, Int.reduceLT, Int.reduceLE, Nat.reduceEqDiff, h2, a3, a4]
          rw [wsucc (by omega)]
          exact hJ4 (k + 1) h1 (by omega)
        · have h2 : decide ((k : Int) < (cs.length : Int)) = false := decide_eq_false (by omega)
          try simp (maxSteps := 2000000) only [↓RG, RP, RB, BEq.rfl, Int.reduceEq, Int.reduceLT, Int.reduceLE, Nat.reduceEqDiff, h2]
          exact hK.sub
end
end Go.Proofs.YtokbiojkpldfeaaGreat.S
