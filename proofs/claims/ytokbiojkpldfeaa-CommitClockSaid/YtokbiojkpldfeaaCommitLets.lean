/-
  CHAPTER 25: CommitLets, CommitClock.
-/
import Derived.Test.YtokbiojkpldfeaaCommitAlone
namespace Go.Proofs.Ytokbiojkpldfeaa.S
open Go Go.Proofs
set_option linter.unusedVariables false
set_option linter.unusedSimpArgs false

theorem alN_end {s s' : ComS × MemS} {n : Nat} (h : alN n s = s') (hf : s'.1.pat.fin ≠ 0) (hn : n ≤ 299) : alN 299 s = s' := by
  have := alN_add (s := s) n (299 - n)
  rw [show 299 - n + n = 299 by omega, h, alN_stop hf] at this
  exact this

theorem step_clock {x : ComS} {m : MemS} (hf : x.pat.fin = 0) (h2 : x.state = 2) : ∃ m', alStep (x, m) = (comRaise x ⟨m.n, zeroLock, false, 0⟩, m') ∧ m'.w = m.w ∧ m'.n = m.n ∧ m'.l = m.l := by
  have hn : (comNext x).1 = ⟨6, 0, 0, 0, zeroLock, zeroLock⟩ := by unfold comNext; rw [if_pos hf]; simp [h2]
  refine ⟨(memDo m ⟨6, 0, 0, 0, zeroLock, zeroLock⟩).1, ?_, ?_, ?_, ?_⟩
  · rw [alStep_go hf, hn, memDo_ans, memStep_6 rfl, comTell_go hf rfl]
    simp [h2]
  · rw [memDo_w, memStep_6 rfl]
  · rw [memDo_n, memStep_6 rfl]
  · rw [memDo_l, memStep_6 rfl]

theorem step_raise {x : ComS} {m : MemS} (hf : x.pat.fin = 0) (h3 : x.state = 3) (hn : x.now = m.n) (h0 : 0 ≤ m.n) (hlt : m.n < 4611686018427387903) : ∃ m', alStep (x, m) = (comRaise x ⟨0, zeroLock, true, 0⟩, m') ∧ m'.w = m.w ∧ m'.n = m.n + 1 ∧ m'.l = m.l := by
  have w1 : IntKind.wrap .u64 (x.now + 1) = m.n + 1 := by rw [hn]; exact wu64 (by omega) (by omega)
  have e : (comNext x).1 = ⟨7, 0, x.now, m.n + 1, zeroLock, zeroLock⟩ := by unfold comNext; rw [if_pos hf, w1]; simp [h3]
  have ec : clockCas m.n x.now (m.n + 1) = (m.n + 1, true, 0) := by unfold clockCas; rw [hn, if_neg (by omega), if_neg (by omega), if_pos rfl]
  refine ⟨(memDo m ⟨7, 0, x.now, m.n + 1, zeroLock, zeroLock⟩).1, ?_, ?_, ?_, ?_⟩
  · rw [alStep_go hf, e, memDo_ans, memStep_7 rfl]
    simp only [ec]
    rw [comTell_go hf rfl]
    simp [h3]
  · rw [memDo_w, memStep_7 rfl]
  · rw [memDo_n, memStep_7 rfl]; simp only [ec]
  · rw [memDo_l, memStep_7 rfl]

theorem step_see {x : ComS} {m : MemS} {s : Nat} (hf : x.pat.fin = 0) (h4 : x.state = 4) (hs : (x.seen.getD x.pos ⟨0, 0⟩).stripe = (s : Int)) (hlt : s < m.l.length) : ∃ m', alStep (x, m) = (comProved x (m.l.getD s zeroLock), m') ∧ m'.w = m.w ∧ m'.n = m.n ∧ m'.l = m.l := by
  have e : (comNext x).1 = ⟨3, (s : Int), 0, 0, zeroLock, zeroLock⟩ := by unfold comNext; rw [if_pos hf, hs]; simp [h4]
  have hl : loadRes m.l (s : Int) = (m.l.getD s zeroLock, 0) := by unfold loadRes; rw [if_pos (inLen_nat hlt)]; simp
  refine ⟨(memDo m ⟨3, (s : Int), 0, 0, zeroLock, zeroLock⟩).1, ?_, ?_, ?_, ?_⟩
  · rw [alStep_go hf, e, memDo_ans, memStep_3 rfl]
    simp only [hl]
    rw [comTell_go hf rfl]
    simp [h4]
  · rw [memDo_w, memStep_3 rfl]
  · rw [memDo_n, memStep_3 rfl]
  · rw [memDo_l, memStep_3 rfl]

/-- a commit behind its locks -/
def cAt (me sp st : Int) (seen : List TSeen) (cells : List TCell) (S : List Int) (was : List TLock) (state : Int) (lk : TLock) (now : Int) (wr : Bool) : ComS := ⟨newPat me sp, me, st, seen, cells, S, was, state, 0, lk, now, wr, 0, 0, 0⟩

theorem comNew_new (me sp stamp : Int) (seen : List TSeen) (cells : List TCell) (S : List Int) : comNew me sp stamp seen cells S = { comNew me sp stamp seen cells S with was := [], state := if 0 = (comNew me sp stamp seen cells S).stripes.length then 2 else 0 } := rfl

/-- the locks as they were -/
def wasOf (ls : List TLock) (S : List Int) : List TLock := S.map fun i => ls.getD i.toNat zeroLock

/-- all locks are taken, the clock is asked -/
theorem to_clock {me sp st : Int} {seen : List TSeen} {cells : List TCell} {S : List Int} {m0 : MemS} (hr : RowOk m0.l S me) (hfree : ∀ i (h : i < S.length), (m0.l.getD S[i].toNat zeroLock).held = false) :
    ∃ lk m', alN (2 * S.length + 1) (comNew me sp st seen cells S, m0) = (comRaise (cAt me sp st seen cells S (wasOf m0.l S) 2 lk 0 false) ⟨m0.n, zeroLock, false, 0⟩, m') ∧ m'.w = m0.w ∧ m'.n = m0.n ∧ Lk me m0.l S m'.l := by
  obtain ⟨y, m1, e, hi⟩ := lock_all (X := comNew me sp st seen cells S) (m0 := m0) hr rfl (comNew_new _ _ _ _ _ _) S.length (Nat.le_refl _) (fun i h _ => hfree i h)
  obtain ⟨lk, hy⟩ := hi.eq
  have hl := hi.l
  have hy2 : y = cAt me sp st seen cells S (wasOf m0.l S) 2 lk 0 false := by
    rw [hy]
    show (⟨_, _, _, _, _, _, (S.take S.length).map _, (if S.length = S.length then 2 else 0), _, _, _, _, _, _, _⟩ : ComS) = _
    rw [List.take_length, if_pos rfl]
    rfl
  have hl2 : Lk me m0.l S m1.l := by
    have h : Lk me m0.l (S.take S.length) m1.l := hl
    rwa [List.take_length] at h
  obtain ⟨m2, e2, a1, a2, a3⟩ := step_clock (x := y) (m := m1) (by rw [hy2]; rfl) (by rw [hy2]; rfl)
  refine ⟨lk, m2, ?_, by rw [a1, hi.w], by rw [a2, hi.n], by rw [a3]; exact hl2⟩
  rw [show 2 * S.length + 1 = 1 + 2 * S.length by omega, alN_add, e]
  show alStep (y, m1) = _
  rw [e2, hi.n, hy2]

theorem comRaise_go {x : ComS} {a : TAns} (h2 : x.state = 2) (h : ¬ 4611686018427387903 ≤ a.word) : comRaise x a = { x with now := a.word, state := 3 } := by unfold comRaise; rw [if_pos h2, if_neg h]
theorem comRaise_end {x : ComS} {a : TAns} (h2 : x.state = 2) (h : 4611686018427387903 ≤ a.word) : comRaise x a = comStop x 4 7 (-1) := by unfold comRaise; rw [if_pos h2, if_pos h]
theorem comRaise_begin {x : ComS} {a : TAns} (h3 : x.state = 3) (hd : a.done = true) (hn : x.now = x.stamp) : comRaise x a = comBegin x := by unfold comRaise; rw [if_neg (by omega), if_neg (by rw [hd]; decide), if_pos hn]

/-- a stripe that was seen otherwise -/
theorem lets_seen {m0 : MemS} {sp : Int} {cells : List TCell} {S : List Int} {s : Nat} (hr : RowOk m0.l S 3) (hS : S.length ≤ 16) (hs : s < m0.l.length) (hn : m0.n = 3) (hfree : ∀ i (h : i < S.length), (m0.l.getD S[i].toNat zeroLock).held = false)
    (hz : m0.l.getD s zeroLock = ⟨2, false, 0⟩) : ∃ y m', alN 299 (comNew 3 sp 1 [⟨s, 1⟩] cells S, m0) = (y, m') ∧ y.pat.fin = 5 ∧ y.pat.by_ = -1 ∧ y.writing = false ∧ m'.w = m0.w ∧ m'.l = m0.l := by
  obtain ⟨lk, m1, e1, a1, a2, a3⟩ := to_clock (me := 3) (sp := sp) (st := 1) (seen := [⟨s, 1⟩]) (cells := cells) (S := S) (m0 := m0) hr hfree
  have hc : comRaise (cAt 3 sp 1 [⟨s, 1⟩] cells S (wasOf m0.l S) 2 lk 0 false) ⟨m0.n, zeroLock, false, 0⟩ = cAt 3 sp 1 [⟨s, 1⟩] cells S (wasOf m0.l S) 3 lk 3 false := by
    rw [comRaise_go rfl (by show ¬ 4611686018427387903 ≤ m0.n; omega), hn]
    rfl
  rw [hc] at e1
  obtain ⟨m2, e2, b1, b2, b3⟩ := step_raise (x := cAt 3 sp 1 [⟨s, 1⟩] cells S (wasOf m0.l S) 3 lk 3 false) (m := m1) rfl rfl (by show (3 : Int) = _; rw [a2, hn]) (by rw [a2, hn]; omega) (by rw [a2, hn]; omega)
  have hp : comRaise (cAt 3 sp 1 [⟨s, 1⟩] cells S (wasOf m0.l S) 3 lk 3 false) ⟨0, zeroLock, true, 0⟩ = proveN 1 (cAt 3 sp 1 [⟨s, 1⟩] cells S (wasOf m0.l S) 4 lk 3 false) := rfl
  rw [hp] at e2
  have hstop : ∀ (m : MemS) (n : Nat), n ≤ 280 → alN n (comNew 3 sp 1 [⟨s, 1⟩] cells S, m0) = (comStop (cAt 3 sp 1 [⟨s, 1⟩] cells S (wasOf m0.l S) 4 lk 3 false) 5 0 (-1), m) → m.w = m0.w → Lk 3 m0.l S m.l →
      ∃ y m', alN 299 (comNew 3 sp 1 [⟨s, 1⟩] cells S, m0) = (y, m') ∧ y.pat.fin = 5 ∧ y.pat.by_ = -1 ∧ y.writing = false ∧ m'.w = m0.w ∧ m'.l = m0.l := by
    intro m n hn2 e h6 h7
    obtain ⟨y3, m3, e3, q1, q2, c1, c2, c3⟩ := leave_all (x := cAt 3 sp 1 [⟨s, 1⟩] cells S (wasOf m0.l S) 4 lk 3 false) (m := m) (ls0 := m0.l) (k := S.length) (e := 5) (er := 0) (b := -1) hr rfl (Nat.le_refl _) (by show wasOf m0.l S = (S.take S.length).map _; rw [List.take_length]; rfl) (by show Lk 3 m0.l (S.take S.length) m.l; rw [List.take_length]; exact h7)
    exact ⟨y3, m3, alN_end (n := S.length + n) (by rw [alN_add, e, e3]) (by simp only [q1, Pat.stop]; decide) (by omega), by rw [q1]; rfl, by rw [q1]; rfl, by rw [q2]; rfl, by rw [c1, h6], c3⟩
  have e3 : alN (2 * S.length + 2) (comNew 3 sp 1 [⟨s, 1⟩] cells S, m0) = (proveN 1 (cAt 3 sp 1 [⟨s, 1⟩] cells S (wasOf m0.l S) 4 lk 3 false), m2) := by
    rw [show 2 * S.length + 2 = 1 + (2 * S.length + 1) by omega, alN_add, e1]
    exact e2
  have hl2 : Lk 3 m0.l S m2.l := by rw [b3]; exact a3
  unfold proveN at e3
  have ho : ownV (cAt 3 sp 1 [⟨s, 1⟩] cells S (wasOf m0.l S) 4 lk 3 false) ((cAt 3 sp 1 [⟨s, 1⟩] cells S (wasOf m0.l S) 4 lk 3 false).seen.getD (cAt 3 sp 1 [⟨s, 1⟩] cells S (wasOf m0.l S) 4 lk 3 false).pos ⟨0, 0⟩).stripe = (idxS S s).map fun i => ((wasOf m0.l S).getD i zeroLock).version := rfl
  rw [ho] at e3
  cases hi : idxS S (s : Int) with
  | none =>
    rw [hi] at e3
    simp only [Option.map_none] at e3
    obtain ⟨m3, e4, c1, c2, c3⟩ := step_see (x := cAt 3 sp 1 [⟨s, 1⟩] cells S (wasOf m0.l S) 4 lk 3 false) (m := m2) (s := s) rfl rfl rfl (by rw [hl2.len]; exact hs)
    have hz2 : m2.l.getD s zeroLock = ⟨2, false, 0⟩ := by rw [hl2.at_ s hs, if_neg (idxS_none.1 hi), hz]
    rw [hz2] at e4
    refine hstop m3 (1 + (2 * S.length + 2)) (by omega) ?_ (by rw [c1, b1, a1]) (by rw [c3]; exact hl2)
    rw [alN_add, e3]
    exact e4
  | some k =>
    obtain ⟨hk, ek⟩ := List.getElem?_eq_some_iff.1 (idxS_some hi)
    have hv : ((wasOf m0.l S).getD k zeroLock).version = 2 := by
      unfold wasOf
      rw [List.getD_eq_getElem?_getD, List.getElem?_map, List.getElem?_eq_getElem hk, ek]
      show (m0.l.getD s zeroLock).version = 2
      rw [hz]
    rw [hi] at e3
    simp only [Option.map_some, hv] at e3
    rw [if_neg (show ¬ (2 : Int) = ((cAt 3 sp 1 [⟨s, 1⟩] cells S (wasOf m0.l S) 4 lk 3 false).seen.getD (cAt 3 sp 1 [⟨s, 1⟩] cells S (wasOf m0.l S) 4 lk 3 false).pos ⟨0, 0⟩).version from by show ¬ (2 : Int) = 1; decide)] at e3
    exact hstop m2 (2 * S.length + 2) (by omega) e3 (by rw [b1, a1]) hl2

/-- a stripe that one of a lesser number holds -/
theorem lets_held {m0 : MemS} {sp : Int} {cells : List TCell} {S : List Int} {s : Nat} {o : Int} (hr : RowOk m0.l S 3) (hS : S.length ≤ 16) (hm : (s : Int) ∈ S) (ho : o < 3) (hfree : ∀ i (h : i < S.length), S[i] ≠ (s : Int) → (m0.l.getD S[i].toNat zeroLock).held = false)
    (hz : m0.l.getD s zeroLock = ⟨1, true, o⟩) : ∃ y m', alN 299 (comNew 3 sp 1 [] cells S, m0) = (y, m') ∧ y.pat.fin = 5 ∧ y.pat.by_ = o ∧ y.writing = false ∧ m'.w = m0.w ∧ m'.l = m0.l := by
  obtain ⟨k, hk, ek⟩ := List.getElem_of_mem hm
  have hr2 := hr.rng _ hm
  have hsl : s < m0.l.length := by have := hr2.2; simpa using this
  obtain ⟨y, m1, e1, hi⟩ := lock_all (X := comNew 3 sp 1 [] cells S) (m0 := m0) hr rfl (comNew_new _ _ _ _ _ _) k (by show k ≤ S.length; omega) (fun i h hik => hfree i h (fun e => by
    have := List.pairwise_iff_getElem.1 hr.rising i k h hk hik
    omega))
  obtain ⟨lk, hy⟩ := hi.eq
  have hSt : (comNew 3 sp 1 [] cells S).stripes = S := rfl
  have hyS : y.stripes = S := by rw [hy]; rfl
  have hyf : y.pat.fin = 0 := by rw [hy]; rfl
  have hys : y.state = 0 := by rw [hy]; simp only [hSt]; rw [if_neg (by omega)]
  have hyw : y.was = (S.take k).map fun i => m0.l.getD i.toNat zeroLock := by rw [hy]; rfl
  have hywl : y.was.length = k := by rw [hyw]; simp; omega
  have hym : y.me = 3 := by rw [hy]; rfl
  have hypm : y.pat.me = 3 := by rw [hy]; rfl
  have hyr : y.writing = false := by rw [hy]; rfl
  have hl := hi.l
  rw [hSt, show (comNew 3 sp 1 [] cells S).me = 3 from rfl] at hl
  have hq := held_le (n := sp) (show (0 : Int) ≤ 4 by omega)
  have hysp : y.pat.spins = ((held sp 0 4).toNat : Nat) := by rw [hy]; show held sp 0 4 = _; omega
  have hns : (s : Int) ∉ S.take k := fun h => by
    obtain ⟨j, hj, ej⟩ := List.getElem_of_mem h
    have hj2 : j < k := by simp at hj; omega
    rw [List.getElem_take] at ej
    have := List.pairwise_iff_getElem.1 hr.rising j k (by omega) hk hj2
    omega
  have hz1 : m1.l.getD s zeroLock = ⟨1, true, o⟩ := by rw [hl.at_ s hsl, if_neg hns, hz]
  obtain ⟨m2, e2, b1, b2, b3⟩ := spin_all (s := s) (o := o) (held sp 0 4).toNat (x := y) (m := m1) (by omega) hyf hys (by rw [hywl, hyS, List.getD_eq_getElem?_getD, List.getElem?_eq_getElem hk, ek]; rfl) (by rw [hl.len]; exact hsl) (by rw [hz1]) (by rw [hz1]) (by rw [hypm]; omega) hysp
  obtain ⟨y3, m3, e3, q1, q2, c1, c2, c3⟩ := leave_all (x := { y with pat := { y.pat with spins := -1 } }) (m := m2) (ls0 := m0.l) (k := k) (e := 5) (er := 0) (b := o) (by show RowOk m0.l y.stripes y.me; rw [hyS, hym]; exact hr) hyf (by show k ≤ y.stripes.length; rw [hyS]; omega) (by show y.was = (y.stripes.take k).map _; rw [hyS]; exact hyw) (by show Lk y.me m0.l (y.stripes.take k) m2.l; rw [hyS, hym, b3]; exact hl)
  refine ⟨y3, m3, alN_end (n := k + ((held sp 0 4).toNat + 1 + 2 * k)) ?_ (by simp only [q1, Pat.stop]; decide) (by omega), by rw [q1]; rfl, by rw [q1]; rfl, by rw [q2]; exact hyr, by rw [c1, b1, hi.w], c3⟩
  rw [alN_add, alN_add, e1, e2, e3]

/-- the clock at its end -/
theorem clock_end {m0 : MemS} {sp st : Int} {seen : List TSeen} {cells : List TCell} {S : List Int} (hr : RowOk m0.l S 0) (hS : S.length ≤ 16) (hn : m0.n = 4611686018427387903) (hfree : ∀ i (h : i < S.length), (m0.l.getD S[i].toNat zeroLock).held = false) :
    ∃ y m', alN 299 (comNew 0 sp st seen cells S, m0) = (y, m') ∧ y.pat.fin = 4 ∧ y.pat.err = 7 ∧ y.writing = false ∧ m'.w = m0.w ∧ m'.l = m0.l ∧ m'.n = m0.n := by
  obtain ⟨lk, m1, e1, a1, a2, a3⟩ := to_clock (me := 0) (sp := sp) (st := st) (seen := seen) (cells := cells) (S := S) (m0 := m0) hr hfree
  have hc : comRaise (cAt 0 sp st seen cells S (wasOf m0.l S) 2 lk 0 false) ⟨m0.n, zeroLock, false, 0⟩ = comStop (cAt 0 sp st seen cells S (wasOf m0.l S) 2 lk 0 false) 4 7 (-1) := comRaise_end rfl (by show 4611686018427387903 ≤ m0.n; omega)
  rw [hc] at e1
  obtain ⟨y3, m3, e3, q1, q2, c1, c2, c3⟩ := leave_all (x := cAt 0 sp st seen cells S (wasOf m0.l S) 2 lk 0 false) (m := m1) (ls0 := m0.l) (k := S.length) (e := 4) (er := 7) (b := -1) hr rfl (Nat.le_refl _) (by show wasOf m0.l S = (S.take S.length).map _; rw [List.take_length]; rfl) (by show Lk 0 m0.l (S.take S.length) m1.l; rw [List.take_length]; exact a3)
  refine ⟨y3, m3, alN_end (n := S.length + (2 * S.length + 1)) ?_ (by simp only [q1, Pat.stop]; decide) (by omega), by rw [q1]; rfl, by rw [q1]; rfl, by rw [q2]; rfl, by rw [c1, a1], c3, by rw [c2, a2]⟩
  rw [alN_add, e1, e3]

theorem step_store {x : ComS} {m : MemS} {c : TCell} (hf : x.pat.fin = 0) (h5 : x.state = 5) (hc : x.cells.getD x.pos ⟨0, 0⟩ = c) (hin : inHeap c.place m.w = true) : ∃ m', alStep (x, m) = (comWrite { x with pos := x.pos + 1 }, m') ∧ m'.w.length = m.w.length ∧ m'.n = m.n ∧ m'.l = m.l := by
  have e : (comNext x).1 = ⟨2, c.place, 0, c.word, zeroLock, zeroLock⟩ := by unfold comNext; rw [if_pos hf, hc]; simp [h5]
  have e2 : memStep m ⟨2, c.place, 0, c.word, zeroLock, zeroLock⟩ = ({ m with w := m.w.set c.place.toNat c.word }, zeroAns) := by rw [memStep_2 rfl]; simp only [hin, if_true]
  refine ⟨(memDo m ⟨2, c.place, 0, c.word, zeroLock, zeroLock⟩).1, ?_, ?_, ?_, ?_⟩
  · rw [alStep_go hf, e, memDo_ans, e2, comTell_go hf rfl]
    simp [h5]
  · rw [memDo_w, e2]; simp
  · rw [memDo_n, e2]
  · rw [memDo_l, e2]

theorem step_give {x : ComS} {m : MemS} {s : Nat} (hf : x.pat.fin = 0) (h6 : x.state = 6) (hs : x.stripes.getD x.pos 0 = (s : Int)) (hlt : s < m.l.length) (hi : isLock ⟨IntKind.wrap .u64 (x.now + 1), false, 0⟩ = true) : ∃ m', alStep (x, m) = (comGive { x with pos := x.pos + 1 }, m') ∧ m'.n = m.n ∧ m'.l.length = m.l.length := by
  have e : (comNext x).1 = ⟨5, (s : Int), 0, 0, zeroLock, ⟨IntKind.wrap .u64 (x.now + 1), false, 0⟩⟩ := by unfold comNext; rw [if_pos hf, hs]; simp [h6]
  have hc : storeRes m.l (s : Int) ⟨IntKind.wrap .u64 (x.now + 1), false, 0⟩ = (m.l.set s ⟨IntKind.wrap .u64 (x.now + 1), false, 0⟩, 0) := by unfold storeRes mayErr; rw [inLen_nat hlt, hi]; simp
  refine ⟨(memDo m ⟨5, (s : Int), 0, 0, zeroLock, ⟨IntKind.wrap .u64 (x.now + 1), false, 0⟩⟩).1, ?_, ?_, ?_⟩
  · rw [alStep_go hf, e, memDo_ans, memStep_5 rfl]
    simp only [hc]
    rw [comTell_go hf rfl]
    simp [h6]
  · rw [memDo_n, memStep_5 rfl]
  · rw [memDo_l, memStep_5 rfl]; simp only [hc]; simp

theorem give_all {x : ComS} {m : MemS} (hf : x.pat.fin = 0) (h6 : x.state = 6) (hr : ∀ s ∈ x.stripes, 0 ≤ s ∧ s.toNat < m.l.length) (hi : isLock ⟨IntKind.wrap .u64 (x.now + 1), false, 0⟩ = true) : ∃ m', alN x.stripes.length (comGive { x with pos := 0 }, m) = ({ x with pos := x.stripes.length, pat := x.pat.stop 2 0 (-1) }, m') ∧ m'.n = m.n := by
  have key : ∀ p, p ≤ x.stripes.length → ∃ m', alN p (comGive { x with pos := 0 }, m) = (comGive { x with pos := p }, m') ∧ m'.n = m.n ∧ m'.l.length = m.l.length := by
    intro p
    induction p with
    | zero => exact fun _ => ⟨m, rfl, rfl, rfl⟩
    | succ p ih =>
      intro hp
      obtain ⟨m1, e1, a1, a2⟩ := ih (by omega)
      have e2 : comGive { x with pos := p } = { x with pos := p } := by unfold comGive; rw [if_neg (by simp only; omega)]
      rw [e2] at e1
      have hs := hr _ (List.getElem_mem (show p < x.stripes.length by omega))
      obtain ⟨m2, e3, b1, b2⟩ := step_give (x := { x with pos := p }) (m := m1) (s := x.stripes[p].toNat) hf h6 (by show x.stripes.getD p 0 = _; rw [List.getD_eq_getElem?_getD, List.getElem?_eq_getElem (by omega)]; simp only [Option.getD_some]; omega) (by rw [a2]; exact hs.2) hi
      exact ⟨m2, by show alStep (alN p _) = _; rw [e1, e3], by rw [b1, a1], by rw [b2, a2]⟩
  obtain ⟨m', e, a, _⟩ := key x.stripes.length (Nat.le_refl _)
  exact ⟨m', by rw [e]; unfold comGive; rw [if_pos rfl], a⟩

theorem store_all {x : ComS} {m : MemS} (hf : x.pat.fin = 0) (h5 : x.state = 5) (hr : ∀ c ∈ x.cells, 1 ≤ c.place ∧ c.place < m.w.length) : ∃ m', alN x.cells.length (comWrite { x with pos := 0 }, m) = (comGive { x with pos := 0, state := 6 }, m') ∧ m'.n = m.n ∧ m'.l = m.l := by
  have key : ∀ p, p ≤ x.cells.length → ∃ m', alN p (comWrite { x with pos := 0 }, m) = (comWrite { x with pos := p }, m') ∧ m'.w.length = m.w.length ∧ m'.n = m.n ∧ m'.l = m.l := by
    intro p
    induction p with
    | zero => exact fun _ => ⟨m, rfl, rfl, rfl, rfl⟩
    | succ p ih =>
      intro hp
      obtain ⟨m1, e1, a0, a1, a2⟩ := ih (by omega)
      have e2 : comWrite { x with pos := p } = { x with pos := p } := by unfold comWrite; rw [if_neg (by simp only; omega)]
      rw [e2] at e1
      have hs := hr _ (List.getElem_mem (show p < x.cells.length by omega))
      obtain ⟨m2, e3, b0, b1, b2⟩ := step_store (x := { x with pos := p }) (m := m1) (c := x.cells[p]) hf h5 (by show x.cells.getD p _ = _; rw [List.getD_eq_getElem?_getD, List.getElem?_eq_getElem (by omega)]; rfl) (by unfold inHeap; simp; omega)
      exact ⟨m2, by show alStep (alN p _) = _; rw [e1, e3], by rw [b0, a0], by rw [b1, a1], by rw [b2, a2]⟩
  obtain ⟨m', e, _, a, b⟩ := key x.cells.length (Nat.le_refl _)
  exact ⟨m', by rw [e]; unfold comWrite; rw [if_pos rfl], a, b⟩

/-- with stamps left it is done -/
theorem clock_done {m0 : MemS} {sp : Int} {seen : List TSeen} {cells : List TCell} {S : List Int} (hr : RowOk m0.l S 0) (hS : S.length ≤ 16) (h0 : 0 ≤ m0.n) (hn : m0.n < 4611686018427387903) (hfree : ∀ i (h : i < S.length), (m0.l.getD S[i].toNat zeroLock).held = false)
    (hcl : cells.length ≤ 100) (hc : ∀ c ∈ cells, 1 ≤ c.place ∧ c.place < m0.w.length) : ∃ y m', alN 299 (comNew 0 sp m0.n seen cells S, m0) = (y, m') ∧ y.pat.fin = 2 ∧ m'.n = m0.n + 1 := by
  obtain ⟨lk, m1, e1, a1, a2, a3⟩ := to_clock (me := 0) (sp := sp) (st := m0.n) (seen := seen) (cells := cells) (S := S) (m0 := m0) hr hfree
  have hcc : comRaise (cAt 0 sp m0.n seen cells S (wasOf m0.l S) 2 lk 0 false) ⟨m0.n, zeroLock, false, 0⟩ = cAt 0 sp m0.n seen cells S (wasOf m0.l S) 3 lk m0.n false := by
    rw [comRaise_go rfl (by show ¬ 4611686018427387903 ≤ m0.n; omega)]
    rfl
  rw [hcc] at e1
  obtain ⟨m2, e2, b1, b2, b3⟩ := step_raise (x := cAt 0 sp m0.n seen cells S (wasOf m0.l S) 3 lk m0.n false) (m := m1) rfl rfl (by rw [a2]; rfl) (by rw [a2]; exact h0) (by rw [a2]; exact hn)
  have hb : comRaise (cAt 0 sp m0.n seen cells S (wasOf m0.l S) 3 lk m0.n false) ⟨0, zeroLock, true, 0⟩ = comWrite { cAt 0 sp m0.n seen cells S (wasOf m0.l S) 5 lk m0.n true with pos := 0 } := comRaise_begin rfl rfl rfl
  rw [hb] at e2
  obtain ⟨m3, e3, c1, c2⟩ := store_all (x := cAt 0 sp m0.n seen cells S (wasOf m0.l S) 5 lk m0.n true) (m := m2) rfl rfl (by rw [b1, a1]; exact hc)
  have w1 : IntKind.wrap .u64 (m0.n + 1) = m0.n + 1 := wu64 (by omega) (by omega)
  obtain ⟨m4, e4, d1⟩ := give_all (x := cAt 0 sp m0.n seen cells S (wasOf m0.l S) 6 lk m0.n true) (m := m3) rfl rfl (by
    rw [c2, b3, a3.len]; exact hr.rng) (by show isLock ⟨IntKind.wrap .u64 (m0.n + 1), false, 0⟩ = true; rw [w1]; unfold isLock; simp; omega)
  have e3' : alN cells.length (comWrite { cAt 0 sp m0.n seen cells S (wasOf m0.l S) 5 lk m0.n true with pos := 0 }, m2) = (comGive { cAt 0 sp m0.n seen cells S (wasOf m0.l S) 6 lk m0.n true with pos := 0 }, m3) := e3
  have e4' : alN S.length (comGive { cAt 0 sp m0.n seen cells S (wasOf m0.l S) 6 lk m0.n true with pos := 0 }, m3) = _ := e4
  have e2' : alN 1 (cAt 0 sp m0.n seen cells S (wasOf m0.l S) 3 lk m0.n false, m1) = _ := e2
  refine ⟨_, m4, alN_end (n := S.length + (cells.length + (1 + (2 * S.length + 1)))) (by rw [alN_add, alN_add, alN_add, e1, e2', e3', e4']) (by simp [Pat.stop]) (by omega), rfl, by rw [d1, c1, b2, a2]⟩

end Go.Proofs.Ytokbiojkpldfeaa.S
