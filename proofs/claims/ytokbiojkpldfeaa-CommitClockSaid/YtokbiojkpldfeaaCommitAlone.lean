/-
  CHAPTER 25, THE PLAIN LAW: a commit on a memory that nobody else touches.
-/
import Derived.Test.YtokbiojkpldfeaaCommitLaw
namespace Go.Proofs.Ytokbiojkpldfeaa.S
open Go Go.Proofs
set_option linter.unusedVariables false
set_option linter.unusedSimpArgs false

theorem memDo_w (m : MemS) (o : TOp) : (memDo m o).1.w = (memStep m o).1.w := by unfold memDo; split <;> rfl
theorem memDo_n (m : MemS) (o : TOp) : (memDo m o).1.n = (memStep m o).1.n := by unfold memDo; split <;> rfl

/-- of a row of locks those of T are held by 'me', the others are as they were -/
structure Lk (me : Int) (ls0 : List TLock) (T : List Int) (ls : List TLock) : Prop where
  len : ls.length = ls0.length
  at_ : ∀ j, j < ls0.length → ls.getD j zeroLock = if (j : Int) ∈ T then ⟨(ls0.getD j zeroLock).version, true, me⟩ else ls0.getD j zeroLock

theorem getD_set {α : Type} (ls : List α) (i j : Nat) (v d : α) (hj : j < ls.length) : (ls.set i v).getD j d = if i = j then v else ls.getD j d := by
  rw [List.getD_eq_getElem?_getD, List.getD_eq_getElem?_getD, List.getElem?_set]
  by_cases h : i = j
  · subst h; simp [hj]
  · simp [h]

theorem Lk.refl (me : Int) (ls : List TLock) : Lk me ls [] ls := ⟨rfl, fun j _ => by simp⟩
theorem Lk.nil {me : Int} {ls0 ls : List TLock} (h : Lk me ls0 [] ls) : ls = ls0 := by
  apply List.ext_getElem?
  intro j
  rcases Nat.lt_or_ge j ls0.length with hj | hj
  · have := h.at_ j hj
    simp only [List.not_mem_nil, if_false] at this
    have hj2 : j < ls.length := by rw [h.len]; exact hj
    rw [List.getD_eq_getElem?_getD, List.getD_eq_getElem?_getD, List.getElem?_eq_getElem hj2, List.getElem?_eq_getElem hj] at this
    rw [List.getElem?_eq_getElem hj2, List.getElem?_eq_getElem hj]
    simpa using this
  · rw [List.getElem?_eq_none (by rw [h.len]; exact hj), List.getElem?_eq_none hj]
theorem Lk.take {me : Int} {ls0 ls : List TLock} {T : List Int} {s : Nat} (h : Lk me ls0 T ls) (hs : s < ls0.length) : Lk me ls0 (T ++ [(s : Int)]) (ls.set s ⟨(ls0.getD s zeroLock).version, true, me⟩) := by
  refine ⟨by rw [List.length_set]; exact h.len, fun j hj => ?_⟩
  rw [getD_set _ _ _ _ _ (by rw [h.len]; exact hj), h.at_ j hj]
  by_cases e : s = j
  · subst e; simp
  · have : ¬ (j : Int) = (s : Int) := by omega
    simp [e, this]
theorem Lk.give {me : Int} {ls0 ls : List TLock} {T : List Int} {s : Nat} (h : Lk me ls0 ((s : Int) :: T) ls) (hs : s < ls0.length) (hn : (s : Int) ∉ T) : Lk me ls0 T (ls.set s (ls0.getD s zeroLock)) := by
  refine ⟨by rw [List.length_set]; exact h.len, fun j hj => ?_⟩
  rw [getD_set _ _ _ _ _ (by rw [h.len]; exact hj), h.at_ j hj]
  by_cases e : s = j
  · subst e; simp [hn]
  · have : ¬ (j : Int) = (s : Int) := by omega
    simp [e, this]

theorem pat_go (p : Pat) : p.stopped 0 = p := by unfold Pat.stopped; rw [if_neg (by simp)]

/-- the row of locks: each is one -/
structure RowOk (ls0 : List TLock) (S : List Int) (me : Int) : Prop where
  lock : ∀ z ∈ ls0, isLock z = true
  rng : ∀ s ∈ S, 0 ≤ s ∧ s.toNat < ls0.length
  rising : S.Pairwise (· < ·)
  me : 0 ≤ me ∧ me < 4

theorem RowOk.at_ {ls0 : List TLock} {S : List Int} {me : Int} (h : RowOk ls0 S me) {k : Nat} (hk : k < S.length) : ∃ s : Nat, S[k] = (s : Int) ∧ s < ls0.length ∧ (s : Int) ∉ S.take k ∧ isLock (ls0.getD s zeroLock) = true := by
  have hr := h.rng _ (List.getElem_mem hk)
  refine ⟨S[k].toNat, by omega, hr.2, fun hm => ?_, ?_⟩
  · obtain ⟨j, hj, e⟩ := List.getElem_of_mem hm
    have hj2 : j < k := by simp at hj; omega
    rw [List.getElem_take] at e
    have := List.pairwise_iff_getElem.1 h.rising j k (by omega) hk hj2
    omega
  · refine h.lock _ ?_
    rw [List.getD_eq_getElem?_getD, List.getElem?_eq_getElem hr.2]
    exact List.getElem_mem hr.2

theorem alStep_go {x : ComS} {m : MemS} (hf : x.pat.fin = 0) : alStep (x, m) = (comTell x (memDo m (comNext x).1).2, (memDo m (comNext x).1).1) := by unfold alStep; rw [if_pos hf]
theorem comTell_go {x : ComS} {a : TAns} (hf : x.pat.fin = 0) (he : a.err = 0) : comTell x a = (if x.state = 0 ∨ x.state = 1 then comTake x a else if x.state = 2 ∨ x.state = 3 then comRaise x a else if x.state = 4 then comProved x a.lock else if x.state = 5 then comWrite { x with pos := x.pos + 1 } else if x.state = 6 then comGive { x with pos := x.pos + 1 } else comLeave { x with pos := x.pos + 1 }) := by
  unfold comTell
  rw [he, pat_go, if_pos hf]

/-- a lock that is looked at -/
theorem step_look {x : ComS} {m : MemS} {s : Nat} (hf : x.pat.fin = 0) (h0 : x.state = 0) (hs : x.stripes.getD x.was.length 0 = (s : Int)) (hlt : s < m.l.length) :
    ∃ m', alStep (x, m) = (comTake x ⟨0, m.l.getD s zeroLock, false, 0⟩, m') ∧ m'.w = m.w ∧ m'.n = m.n ∧ m'.l = m.l := by
  have hn : (comNext x).1 = ⟨3, (s : Int), 0, 0, zeroLock, zeroLock⟩ := by unfold comNext; rw [if_pos hf, if_pos h0, hs]
  have hl : loadRes m.l (s : Int) = (m.l.getD s zeroLock, 0) := by unfold loadRes; rw [if_pos (inLen_nat hlt)]; simp
  refine ⟨(memDo m ⟨3, (s : Int), 0, 0, zeroLock, zeroLock⟩).1, ?_, ?_, ?_, ?_⟩
  · rw [alStep_go hf, hn, memDo_ans, memStep_3 rfl]
    simp only [hl]
    rw [comTell_go hf rfl, if_pos (.inl h0)]
  · rw [memDo_w, memStep_3 rfl]
  · rw [memDo_n, memStep_3 rfl]
  · rw [memDo_l, memStep_3 rfl]

/-- a lock that is taken -/
theorem step_take {x : ComS} {m : MemS} {s : Nat} (hf : x.pat.fin = 0) (h0 : x.state = 1) (hs : x.stripes.getD x.was.length 0 = (s : Int)) (hlt : s < m.l.length) (hw : m.l.getD s zeroLock = x.lock) (hi : isLock ⟨x.lock.version, true, x.me⟩ = true) :
    ∃ m', alStep (x, m) = (comMore { x with was := x.was ++ [x.lock] }, m') ∧ m'.w = m.w ∧ m'.n = m.n ∧ m'.l = m.l.set s ⟨x.lock.version, true, x.me⟩ := by
  have hn : (comNext x).1 = ⟨4, (s : Int), 0, 0, x.lock, ⟨x.lock.version, true, x.me⟩⟩ := by unfold comNext; rw [if_pos hf, if_neg (by omega), if_pos h0, hs]
  have hc : casRes m.l (s : Int) x.lock ⟨x.lock.version, true, x.me⟩ = (m.l.set s ⟨x.lock.version, true, x.me⟩, true, 0) := by
    unfold casRes mayErr
    rw [inLen_nat hlt, hi]
    simp only [if_true, Int.toNat_natCast, hw]
  refine ⟨(memDo m ⟨4, (s : Int), 0, 0, x.lock, ⟨x.lock.version, true, x.me⟩⟩).1, ?_, ?_, ?_, ?_⟩
  · rw [alStep_go hf, hn, memDo_ans, memStep_4 rfl]
    simp only [hc]
    rw [comTell_go hf rfl, if_pos (.inr h0)]
    unfold comTake
    rw [if_neg (by omega)]
    simp only [if_true]
  · rw [memDo_w, memStep_4 rfl]
  · rw [memDo_n, memStep_4 rfl]
  · rw [memDo_l, memStep_4 rfl]; simp only [hc]

/-- k stripes are taken -/
structure LInv (X : ComS) (m0 : MemS) (k : Nat) (x : ComS) (m : MemS) : Prop where
  le : k ≤ X.stripes.length
  eq : ∃ lk, x = { X with was := (X.stripes.take k).map fun i => m0.l.getD i.toNat zeroLock, lock := lk, state := if k = X.stripes.length then 2 else 0 }
  w : m.w = m0.w
  n : m.n = m0.n
  l : Lk X.me m0.l (X.stripes.take k) m.l

theorem isLock_free {z : TLock} {me : Int} (hm : 0 ≤ me ∧ me < 4) (h : isLock z = true) : isLock ⟨z.version, true, me⟩ = true := by
  have : z.version < 4611686018427387904 := by unfold isLock at h; split at h <;> simp at h <;> exact h.1
  unfold isLock; simp; omega

theorem LInv.step {X : ComS} {m0 : MemS} {k : Nat} {x : ComS} {m : MemS} (h : LInv X m0 k x m) (hr : RowOk m0.l X.stripes X.me) (hX : X.pat.fin = 0) (hk : k < X.stripes.length) (hfree : (m0.l.getD X.stripes[k].toNat zeroLock).held = false) :
    ∃ y m', alN 2 (x, m) = (y, m') ∧ LInv X m0 (k + 1) y m' := by
  obtain ⟨s, es, hs, hns, hil⟩ := hr.at_ hk
  have hwl : (X.stripes.take k).length = k := by rw [List.length_take]; omega
  obtain ⟨lk, hx⟩ := h.eq
  have hxf : x.pat.fin = 0 := by rw [hx]; exact hX
  have hxs : x.state = 0 := by rw [hx]; simp only; rw [if_neg (by omega)]
  have hwas : x.was = (X.stripes.take k).map fun i => m0.l.getD i.toNat zeroLock := by rw [hx]
  have hxw : x.was.length = k := by rw [hwas, List.length_map, hwl]
  have hxS : x.stripes = X.stripes := by rw [hx]
  have hxm : x.me = X.me := by rw [hx]
  have hst : x.stripes.getD x.was.length 0 = (s : Int) := by rw [hxw, hxS, List.getD_eq_getElem?_getD, List.getElem?_eq_getElem hk, es]; rfl
  have hlt : s < m.l.length := by rw [h.l.len]; exact hs
  have hz : m.l.getD s zeroLock = m0.l.getD s zeroLock := by rw [h.l.at_ s hs, if_neg hns]
  rw [es, Int.toNat_natCast] at hfree
  obtain ⟨m1, e1, a1, a2, a3⟩ := step_look hxf hxs hst hlt
  have e2 : comTake x ⟨0, m.l.getD s zeroLock, false, 0⟩ = { x with lock := m0.l.getD s zeroLock, state := 1 } := by
    unfold comTake
    rw [if_pos hxs, hz]
    simp only [hfree, if_false]
    rfl
  rw [e2] at e1
  obtain ⟨m2, e3, b1, b2, b3⟩ := step_take (x := { x with lock := m0.l.getD s zeroLock, state := 1 }) (m := m1) (s := s) hxf rfl hst (by rw [a3]; exact hlt) (by rw [a3]; exact hz) (by
    have hm := hr.me
    rw [hxm]
    exact isLock_free hm hil)
  refine ⟨_, m2, by show alStep (alStep (x, m)) = _; rw [e1, e3], ?_⟩
  have htk : X.stripes.take (k + 1) = X.stripes.take k ++ [(s : Int)] := by rw [List.take_add_one, List.getElem?_eq_getElem hk, es]; rfl
  refine ⟨hk, ?_, by rw [b1, a1, h.w], by rw [b2, a2, h.n], ?_⟩
  · refine ⟨m0.l.getD s zeroLock, ?_⟩
    unfold comMore
    simp only [List.length_append, hxw, List.length_singleton, hxS, htk, List.map_append, List.map_cons, List.map_nil, Int.toNat_natCast]
    simp only [hwas]
    rw [hx]
  · rw [b3, a3, htk]
    have := h.l.take hs
    simp only [hxm]
    exact this

theorem lock_all {X : ComS} {m0 : MemS} (hr : RowOk m0.l X.stripes X.me) (hX : X.pat.fin = 0) (hnew : X = { X with was := [], state := if 0 = X.stripes.length then 2 else 0 }) : ∀ k, k ≤ X.stripes.length → (∀ i (h : i < X.stripes.length), i < k → (m0.l.getD X.stripes[i].toNat zeroLock).held = false) →
    ∃ y m', alN (2 * k) (X, m0) = (y, m') ∧ LInv X m0 k y m'
  | 0, _, _ => ⟨X, m0, rfl, ⟨Nat.zero_le _, ⟨X.lock, by rw [List.take_zero, List.map_nil]; exact hnew⟩, rfl, rfl, by rw [List.take_zero]; exact Lk.refl _ _⟩⟩
  | k + 1, hk, hf => by
    obtain ⟨y, m, e, hi⟩ := lock_all hr hX hnew k (by omega) (fun i h hik => hf i h (by omega))
    obtain ⟨y2, m2, e2, hi2⟩ := hi.step hr hX (by omega) (hf k (by omega) (by omega))
    refine ⟨y2, m2, ?_, hi2⟩
    rw [show 2 * (k + 1) = 2 + 2 * k by omega, alN_add, e, e2]

/-- a lock that is given back as it was -/
theorem step_leave {x : ComS} {m : MemS} {s : Nat} {z : TLock} (hf : x.pat.fin = 0) (h7 : x.state = 7) (hs : x.stripes.getD x.pos 0 = (s : Int)) (hz : x.was.getD x.pos zeroLock = z) (hlt : s < m.l.length) (hi : isLock z = true) :
    ∃ m', alStep (x, m) = (comLeave { x with pos := x.pos + 1 }, m') ∧ m'.w = m.w ∧ m'.n = m.n ∧ m'.l = m.l.set s z := by
  have hn : (comNext x).1 = ⟨5, (s : Int), 0, 0, zeroLock, z⟩ := by
    unfold comNext
    rw [if_pos hf]
    simp only [h7, Int.reduceEq, if_false, hs, hz]
  have hc : storeRes m.l (s : Int) z = (m.l.set s z, 0) := by unfold storeRes mayErr; rw [inLen_nat hlt, hi]; simp
  refine ⟨(memDo m ⟨5, (s : Int), 0, 0, zeroLock, z⟩).1, ?_, ?_, ?_, ?_⟩
  · rw [alStep_go hf, hn, memDo_ans, memStep_5 rfl]
    simp only [hc]
    rw [comTell_go hf rfl]
    simp only [h7, Int.reduceEq, or_self, if_false]
  · rw [memDo_w, memStep_5 rfl]
  · rw [memDo_n, memStep_5 rfl]
  · rw [memDo_l, memStep_5 rfl]; simp only [hc]

theorem leave_all {x : ComS} {m : MemS} {ls0 : List TLock} {k : Nat} {e er b : Int} (hr : RowOk ls0 x.stripes x.me) (hf : x.pat.fin = 0) (hk : k ≤ x.stripes.length) (hw : x.was = (x.stripes.take k).map fun i => ls0.getD i.toNat zeroLock) (hl : Lk x.me ls0 (x.stripes.take k) m.l) :
    ∃ y m', alN k (comStop x e er b, m) = (y, m') ∧ y.pat = x.pat.stop e er b ∧ y.writing = x.writing ∧ m'.w = m.w ∧ m'.n = m.n ∧ m'.l = ls0 := by
  have hwl : x.was.length = k := by rw [hw]; simp; omega
  have key : ∀ p, p ≤ k → ∃ m', alN p (comStop x e er b, m) = (comLeave { x with fin := e, err := er, by_ := b, pos := p, state := 7 }, m') ∧ m'.w = m.w ∧ m'.n = m.n ∧ Lk x.me ls0 ((x.stripes.take k).drop p) m'.l := by
    intro p
    induction p with
    | zero => exact fun _ => ⟨m, rfl, rfl, rfl, hl⟩
    | succ p ih =>
      intro hp
      obtain ⟨m1, e1, a1, a2, a3⟩ := ih (by omega)
      have hp2 : p < x.stripes.length := by omega
      obtain ⟨s, es, hs, hns, hil⟩ := hr.at_ hp2
      have e2 : comLeave { x with fin := e, err := er, by_ := b, pos := p, state := 7 } = { x with fin := e, err := er, by_ := b, pos := p, state := 7 } := by unfold comLeave; rw [if_neg (by simp only; omega)]
      rw [e2] at e1
      have hst : x.stripes.getD p 0 = (s : Int) := by rw [List.getD_eq_getElem?_getD, List.getElem?_eq_getElem hp2, es]; rfl
      have hwp : x.was.getD p zeroLock = ls0.getD s zeroLock := by
        rw [hw, List.getD_eq_getElem?_getD, List.getElem?_map, List.getElem?_take, if_pos (by omega), List.getElem?_eq_getElem hp2, es]
        rfl
      have hdr : (x.stripes.take k).drop p = (s : Int) :: (x.stripes.take k).drop (p + 1) := by
        rw [List.drop_eq_getElem_cons (by simp; omega), List.getElem_take, es]
      obtain ⟨m2, e3, b1, b2, b3⟩ := step_leave (x := { x with fin := e, err := er, by_ := b, pos := p, state := 7 }) (m := m1) (s := s) (z := ls0.getD s zeroLock) hf rfl hst hwp (by rw [a3.len]; exact hs) hil
      refine ⟨m2, by show alStep (alN p _) = _; rw [e1, e3], by rw [b1, a1], by rw [b2, a2], ?_⟩
      rw [b3]
      rw [hdr] at a3
      refine a3.give hs fun hm => ?_
      obtain ⟨j, hj, ej⟩ := List.getElem_of_mem hm
      rw [List.getElem_drop, List.getElem_take] at ej
      have hj3 : p + 1 + j < x.stripes.length := by simp at hj; omega
      have := List.pairwise_iff_getElem.1 hr.rising p (p + 1 + j) hp2 hj3 (by omega)
      omega
  obtain ⟨m', e1, a1, a2, a3⟩ := key k (Nat.le_refl _)
  rw [List.drop_eq_nil_of_le (by simp; omega)] at a3
  refine ⟨_, m', e1, ?_, ?_, a1, a2, a3.nil⟩
  · unfold comLeave
    rw [if_pos (by simp only; omega)]
  · unfold comLeave
    rw [if_pos (by simp only; omega)]

/-- a lock that one of a lesser number holds: so often as there are spins, then it stops -/
theorem spin_all {s : Nat} {o : Int} : ∀ (q : Nat) {x : ComS} {m : MemS}, q ≤ 4 → x.pat.fin = 0 → x.state = 0 → x.stripes.getD x.was.length 0 = (s : Int) → s < m.l.length → (m.l.getD s zeroLock).held = true → (m.l.getD s zeroLock).owner = o → ¬ o > x.pat.me → x.pat.spins = q →
    ∃ m', alN (q + 1) (x, m) = (comStop { x with pat := { x.pat with spins := -1 } } 5 0 o, m') ∧ m'.w = m.w ∧ m'.n = m.n ∧ m'.l = m.l
  | q, x, m, hq, hf, h0, hs, hlt, hh, ho, hme, hsp => by
    obtain ⟨m1, e1, a1, a2, a3⟩ := step_look hf h0 hs hlt
    have w1 : IntKind.wrap .i64 (x.pat.spins - 1) = (q : Int) - 1 := by rw [hsp]; exact wi64 (by omega) (by omega)
    have hwt : x.pat.waits o = ({ x.pat with spins := (q : Int) - 1 }, decide ((q : Int) - 1 ≥ 0)) := by unfold Pat.waits; rw [if_neg hme, w1]
    have e2 : comTake x ⟨0, m.l.getD s zeroLock, false, 0⟩ = comHeld x (m.l.getD s zeroLock) := by unfold comTake; rw [if_pos h0, if_pos hh]
    rw [e2] at e1
    unfold comHeld at e1
    rw [ho, hwt] at e1
    cases q with
    | zero =>
      simp only [show ¬ ((0 : Nat) : Int) - 1 ≥ 0 by omega, decide_false, Bool.false_eq_true, if_false] at e1
      exact ⟨m1, e1, a1, a2, a3⟩
    | succ q =>
      simp only [show ((q + 1 : Nat) : Int) - 1 ≥ 0 by omega, decide_true, if_true] at e1
      obtain ⟨m2, e3, b1, b2, b3⟩ := spin_all (o := o) (s := s) q (x := { x with pat := { x.pat with spins := ((q + 1 : Nat) : Int) - 1 } }) (m := m1) (by omega) hf h0 hs (by rw [a3]; exact hlt) (by rw [a3]; exact hh) (by rw [a3]; exact ho) hme (by simp only; omega)
      refine ⟨m2, ?_, by rw [b1, a1], by rw [b2, a2], by rw [b3, a3]⟩
      rw [alN_add 1 (q + 1)]
      show alN (q + 1) (alStep (x, m)) = _
      rw [e1, e3]

end Go.Proofs.Ytokbiojkpldfeaa.S
