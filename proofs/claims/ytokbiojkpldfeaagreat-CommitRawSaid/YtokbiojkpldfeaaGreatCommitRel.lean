/-
  CHAPTER 25: the program's commit and the document's go together.
-/
import Derived.Test.YtokbiojkpldfeaaGreatRefCommit
namespace Go.Proofs.YtokbiojkpldfeaaGreat.S
open Go Go.Proofs
set_option linter.unusedVariables false
set_option linter.unusedSimpArgs false

/-- what both hold alike, while it goes on -/
structure CB (x : ComS) (y : RCom) : Prop where
  len : ComLen x
  me : y.pat.me = x.pat.me
  me2 : x.me = x.pat.me
  xf : x.pat.fin = 0
  xb : x.pat.by_ = -1
  xe : x.pat.err = 0
  stamp : y.stamp = x.stamp
  seen : y.seen = x.seen
  cells : y.cells = x.cells
  stripes : y.stripes = x.stripes
  was : y.was = x.was
structure CG (x : ComS) (y : RCom) : Prop extends CB x y where
  yf : y.pat.fin = 0
  yb : y.pat.by_ = -1
  ye : y.pat.err = 0
  sp : y.pat.spins = x.pat.spins ∧ 0 ≤ x.pat.spins ∧ x.pat.spins ≤ 4

structure CRel (x : ComS) (y : RCom) : Prop where
  ok : ComOk x
  me : y.pat.me = x.pat.me
  me2 : x.me = x.pat.me
  fin : y.pat.fin = x.pat.fin
  err : y.pat.err = x.pat.err
  by_ : y.pat.by_ = x.pat.by_
  stamp : y.stamp = x.stamp
  seen : y.seen = x.seen
  cells : y.cells = x.cells
  stripes : y.stripes = x.stripes
  was : y.was = x.was
  go : x.pat.fin = 0 → x.pat.by_ = -1 ∧ x.pat.err = 0 ∧ y.ph = x.state ∧ (x.state ≠ 7 → y.pat.spins = x.pat.spins ∧ 0 ≤ x.pat.spins ∧ x.pat.spins ≤ 4) ∧
    ((x.state = 0 ∨ x.state = 1) → y.pos = x.was.length) ∧ ((x.state = 2 ∨ x.state = 3) → y.pos = 0) ∧ (4 ≤ x.state → y.pos = x.pos) ∧ (x.state = 1 → y.lock = x.lock) ∧ (3 ≤ x.state → x.state ≤ 6 → y.t = x.now) ∧
    (x.state = 7 → y.fin = x.fin ∧ y.err = x.err ∧ y.by_ = x.by_)

theorem CRel.rok {x : ComS} {y : RCom} (h : CRel x y) (hf : x.pat.fin = 0) : ROk y := by
  obtain ⟨_, _, g3, _, g5, g6, g7, _, _, _⟩ := h.go hf
  obtain ⟨k01, k23, k4, k5, k6, k7⟩ := h.ok.here hf
  have hl := h.ok.len
  have hs := h.ok.st
  have hp := h.ok.pos
  have l1 := hl.few
  have l2 := hl.was
  refine ⟨⟨by rw [h.stripes]; exact hl.few, by rw [h.stripes, h.was]; exact hl.was, by rw [h.seen]; exact hl.seen, ?_⟩, by rw [g3]; exact hs, ?_, ?_, ?_, ?_, ?_⟩
  · by_cases c : x.state = 0 ∨ x.state = 1
    · rw [g5 c]; omega
    · by_cases c2 : x.state = 2 ∨ x.state = 3
      · rw [g6 c2]; omega
      · rw [g7 (by omega)]; exact hp
  · rw [g3, h.stripes, h.was]; intro c; rw [g5 c]; exact ⟨(k01 c).1, (k01 c).1⟩
  · rw [g3, h.seen]; intro c; rw [g7 (by omega)]; exact (k4 c).2
  · rw [g3, h.cells]; intro c; rw [g7 (by omega)]; exact (k5 c).2
  · rw [g3, h.stripes]; intro c; rw [g7 (by omega)]; exact (k6 c).2
  · rw [g3, h.was]; intro c; rw [g7 (by omega)]; exact (k7 c).1

theorem CRel.next {x : ComS} {y : RCom} (h : CRel x y) (hf : x.pat.fin = 0) : comNext x = (rNext y, true) := by
  obtain ⟨_, _, g3, _, g5, g6, g7, g8, g9, _⟩ := h.go hf
  unfold comNext rNext
  rw [if_pos hf, g3, h.seen, h.cells, h.stripes, h.was, h.me, ← h.me2]
  by_cases c0 : x.state = 0
  · simp only [c0, if_true, g5 (.inl c0)]
  by_cases c1 : x.state = 1
  · simp only [c0, c1, if_true, if_false, g5 (.inr c1), g8 c1, Int.reduceEq]
  by_cases c2 : x.state = 2
  · simp only [c2, if_true, if_false, Int.reduceEq]
  by_cases c3 : x.state = 3
  · simp only [c3, if_true, if_false, Int.reduceEq, g9 (by omega) (by omega)]
  by_cases c4 : x.state = 4
  · simp only [c4, if_true, if_false, Int.reduceEq, g7 (by omega)]
  by_cases c5 : x.state = 5
  · simp only [c5, if_true, if_false, Int.reduceEq, g7 (by omega)]
  by_cases c6 : x.state = 6
  · simp only [c6, if_true, if_false, Int.reduceEq, g7 (by omega), g9 (by omega) (by omega)]
  · have c7 : x.state = 7 := by have := h.ok.st; omega
    simp only [c7, if_false, Int.reduceEq, g7 (by omega)]

theorem CB.stop {x : ComS} {y : RCom} (h : CB x y) {e er b : Int} (he : e ≠ 0) : CRel (comStop x e er b) (rOut y e er b) := by
  have hok := comStop_ok (x := x) h.len (er := er) (b := b) he
  cases y with | mk yp y1 y2 y3 y4 y5 lk ph pos t yfn yer yby =>
  have hs1 := h.stamp
  have hs2 := h.seen
  have hs3 := h.cells
  have hs4 := h.stripes
  have hs5 := h.was
  dsimp only at hs1 hs2 hs3 hs4 hs5
  subst hs1 hs2 hs3 hs4 hs5
  unfold comStop comLeave at *
  unfold rOut
  dsimp only at hok ⊢
  by_cases c : 0 < x.was.length
  · rw [if_pos c]
    rw [if_neg (by omega)] at hok ⊢
    exact ⟨hok, h.me, h.me2, h.xf.symm, h.xe.symm, h.xb.symm, rfl, rfl, rfl, rfl, rfl,
      fun _ => ⟨h.xb, h.xe, rfl, fun g => absurd rfl g, fun g => by simp at g, fun g => by simp at g, fun _ => rfl, fun g => by simp at g, fun _ g => by simp at g, fun _ => ⟨rfl, rfl, rfl⟩⟩⟩
  · rw [if_neg c]
    rw [if_pos (by omega)] at hok ⊢
    exact ⟨hok, h.me, h.me2, rfl, rfl, rfl, rfl, rfl, rfl, rfl, rfl, fun g => absurd g he⟩

theorem CG.free {x : ComS} {y : RCom} (h : CG x y) (hw : x.was.length = x.stripes.length) (ht : y.t = x.now) : CRel (comGive { x with pos := 0, state := 6 }) (rFree y) := by
  have hok := comGive_ok (x := { x with pos := 0, state := 6 }) (h.len.eqs rfl rfl rfl rfl) rfl (Nat.zero_le _) hw
  cases y with | mk yp y1 y2 y3 y4 y5 lk ph pos t yfn yer yby =>
  have hs1 := h.stamp
  have hs2 := h.seen
  have hs3 := h.cells
  have hs4 := h.stripes
  have hs5 := h.was
  dsimp only at hs1 hs2 hs3 hs4 hs5
  subst hs1 hs2 hs3 hs4 hs5
  unfold comGive at *
  unfold rFree
  dsimp only at hok ht ⊢
  by_cases c : x.stripes.length = 0
  · rw [if_pos c]
    rw [if_pos (by omega)] at hok ⊢
    exact ⟨hok, h.me, h.me2, rfl, h.ye, h.yb, rfl, rfl, rfl, rfl, rfl, fun g => by simp [Pat.stop] at g⟩
  · rw [if_neg c]
    rw [if_neg (by omega)] at hok ⊢
    exact ⟨hok, h.me, h.me2, by rw [h.xf]; exact h.yf, by rw [h.xe]; exact h.ye, by rw [h.xb]; exact h.yb, rfl, rfl, rfl, rfl, rfl,
      fun _ => ⟨h.xb, h.xe, rfl, fun _ => h.sp, fun g => by simp at g, fun g => by simp at g, fun _ => rfl, fun g => by simp at g, fun _ _ => ht, fun g => by simp at g⟩⟩

theorem CG.write {x : ComS} {y : RCom} (h : CG x y) (hw : x.was.length = x.stripes.length) (ht : y.t = x.now) : CRel (comBegin x) (rWrite y) := by
  have hok := comBegin_ok (x := x) h.len hw
  cases y with | mk yp y1 y2 y3 y4 y5 lk ph pos t yfn yer yby =>
  have hs1 := h.stamp
  have hs2 := h.seen
  have hs3 := h.cells
  have hs4 := h.stripes
  have hs5 := h.was
  dsimp only at hs1 hs2 hs3 hs4 hs5
  subst hs1 hs2 hs3 hs4 hs5
  unfold comBegin comWrite at *
  unfold rWrite
  dsimp only at hok ht ⊢
  by_cases c : x.cells.length = 0
  · rw [if_pos c, if_pos (by omega)]
    have h2 : CG { x with writing := true, pos := 0, state := 5 } ⟨yp, x.stamp, x.seen, x.cells, x.stripes, x.was, lk, 5, 0, t, yfn, yer, yby⟩ := ⟨⟨h.len.eqs rfl rfl rfl rfl, h.me, h.me2, h.xf, h.xb, h.xe, rfl, rfl, rfl, rfl, rfl⟩, h.yf, h.yb, h.ye, h.sp⟩
    exact h2.free hw ht
  · rw [if_neg c]
    rw [if_neg (by omega)] at hok ⊢
    exact ⟨hok, h.me, h.me2, by rw [h.xf]; exact h.yf, by rw [h.xe]; exact h.ye, by rw [h.xb]; exact h.yb, rfl, rfl, rfl, rfl, rfl,
      fun _ => ⟨h.xb, h.xe, rfl, fun _ => h.sp, fun g => by simp at g, fun g => by simp at g, fun _ => rfl, fun g => by simp at g, fun _ _ => ht, fun g => by simp at g⟩⟩

theorem CG.lookN : ∀ {n : Nat} {x : ComS} {y : RCom}, CG x y → x.was.length = x.stripes.length → y.t = x.now → x.state = 4 → y.ph = 4 → y.pos = x.pos → x.seen.length = x.pos + n → CRel (proveN n x) (rLookN n y)
  | 0, x, y, h, hw, ht, hs, hp, hq, hn => h.write hw ht
  | n + 1, x, y, h, hw, ht, hs, hp, hq, hn => by
    have hok := proveN_ok (n := n + 1) h.len hs hw hn
    cases y with | mk yp y1 y2 y3 y4 y5 lk ph pos t yfn yer yby =>
    have hs1 := h.stamp
    have hs2 := h.seen
    have hs3 := h.cells
    have hs4 := h.stripes
    have hs5 := h.was
    dsimp only at hs1 hs2 hs3 hs4 hs5
    subst hs1 hs2 hs3 hs4 hs5
    dsimp only at ht hp hq
    subst ht hp hq
    unfold proveN at *
    unfold rLookN
    have ho : ∀ s, rOwnV ⟨yp, x.stamp, x.seen, x.cells, x.stripes, x.was, lk, 4, x.pos, x.now, yfn, yer, yby⟩ s = ownV x s := fun s => by
      unfold rOwnV ownV
      dsimp only
      rw [hw, List.take_length]
    rw [ho]
    dsimp only
    cases hv : ownV x (x.seen.getD x.pos ⟨0, 0⟩).stripe with
    | none =>
      rw [hv] at hok
      dsimp only at hok ⊢
      exact ⟨hok, h.me, h.me2, by rw [h.xf]; exact h.yf, by rw [h.xe]; exact h.ye, by rw [h.xb]; exact h.yb, rfl, rfl, rfl, rfl, rfl,
        fun _ => ⟨h.xb, h.xe, hs.symm, fun _ => h.sp, fun g => by omega, fun g => by omega, fun _ => rfl, fun g => by omega, fun _ _ => rfl, fun g => by omega⟩⟩
    | some v =>
      simp only
      by_cases c : v = (x.seen.getD x.pos ⟨0, 0⟩).version
      · rw [if_pos c, if_pos c]
        have h2 : CG { x with pos := x.pos + 1 } ⟨yp, x.stamp, x.seen, x.cells, x.stripes, x.was, lk, 4, x.pos + 1, x.now, yfn, yer, yby⟩ := ⟨⟨h.len.eqs rfl rfl rfl rfl, h.me, h.me2, h.xf, h.xb, h.xe, rfl, rfl, rfl, rfl, rfl⟩, h.yf, h.yb, h.ye, h.sp⟩
        exact CG.lookN h2 hw rfl hs rfl rfl (by simp only; omega)
      · rw [if_neg c, if_neg c]
        exact h.toCB.stop (by decide)

theorem CG.look {x : ComS} {y : RCom} (h : CG x y) (hw : x.was.length = x.stripes.length) (ht : y.t = x.now) (hp : y.ph = 4) (hq : y.pos = x.pos) (hle : x.pos ≤ x.seen.length) : CRel (comProve x) (rLook y) := by
  unfold comProve rLook
  rw [hq, h.seen]
  have h2 : CG { x with state := 4 } y := ⟨⟨h.len.eqs rfl rfl rfl rfl, h.me, h.me2, h.xf, h.xb, h.xe, h.stamp, h.seen, h.cells, h.stripes, h.was⟩, h.yf, h.yb, h.ye, h.sp⟩
  exact CG.lookN h2 hw ht rfl hp hq (by simp only; omega)

theorem CG.held {x : ComS} {y : RCom} (h : CG x y) (hr : CRel x y) (hs : x.state ≠ 7) (l : TLock) : CRel (comHeld x l) (if (y.pat.rheld l.owner).2 = true then { y with pat := (y.pat.rheld l.owner).1 } else rOut { y with pat := (y.pat.rheld l.owner).1 } (y.pat.rheld l.owner).1.fin (y.pat.rheld l.owner).1.err (y.pat.rheld l.owner).1.by_) := by
  obtain ⟨e1, e2, e3⟩ := h.sp
  have hok := comHeld_ok hr.ok h.xf l
  obtain ⟨g1, g2, g3, g4, g5, g6, g7, g8, g9, g10⟩ := hr.go h.xf
  unfold comHeld at *
  have w : IntKind.wrap .i64 (x.pat.spins - 1) = x.pat.spins - 1 := wi64 (by omega) (by omega)
  by_cases c : l.owner > x.pat.me
  · have w1 : x.pat.waits l.owner = (x.pat, true) := by unfold Pat.waits; rw [if_pos c]
    have w2 : y.pat.rheld l.owner = (y.pat, true) := by unfold Pat.rheld; rw [h.me, if_pos c]
    rw [w1] at hok ⊢
    rw [w2]
    simp only [if_true]
    exact hr
  · have w1 : x.pat.waits l.owner = ({ x.pat with spins := x.pat.spins - 1 }, decide (x.pat.spins - 1 ≥ 0)) := by unfold Pat.waits; rw [if_neg c, w]
    by_cases z : x.pat.spins > 0
    · have w2 : y.pat.rheld l.owner = ({ y.pat with spins := x.pat.spins - 1 }, true) := by unfold Pat.rheld; rw [if_neg (show ¬ l.owner > y.pat.me by rw [h.me]; exact c), e1, if_pos z, w]
      have z2 : x.pat.spins - 1 ≥ 0 := by omega
      rw [w1] at hok ⊢
      rw [w2]
      simp only [z2, decide_true, if_true] at hok ⊢
      exact ⟨hok, h.me, h.me2, hr.fin, hr.err, hr.by_, h.stamp, h.seen, h.cells, h.stripes, h.was, fun _ => ⟨g1, g2, g3, fun _ => ⟨rfl, by simp only; omega, by simp only; omega⟩, g5, g6, g7, g8, g9, g10⟩⟩
    · have w2 : y.pat.rheld l.owner = ({ y.pat with fin := 5, by_ := l.owner }, false) := by unfold Pat.rheld; rw [if_neg (show ¬ l.owner > y.pat.me by rw [h.me]; exact c), if_neg (show ¬ y.pat.spins > 0 by rw [e1]; exact z)]
      have z2 : ¬ x.pat.spins - 1 ≥ 0 := by omega
      rw [w1] at hok ⊢
      rw [w2]
      simp only [z2, decide_false, Bool.false_eq_true, if_false] at hok ⊢
      have h2 : CB { x with pat := { x.pat with spins := x.pat.spins - 1 } } { y with pat := { y.pat with fin := 5, by_ := l.owner } } := ⟨h.len.eqs rfl rfl rfl rfl, h.me, h.me2, h.xf, h.xb, h.xe, h.stamp, h.seen, h.cells, h.stripes, h.was⟩
      rw [h.ye]
      exact h2.stop (by decide)

theorem CRel.tell {x : ComS} {y : RCom} (h : CRel x y) (a : TAns) : CRel (comTell x a) (rTell y a) := by
  have hok := comTell_ok h.ok a
  cases y with | mk yp y1 y2 y3 y4 y5 lk ph pos t yfn yer yby =>
  have hs1 := h.stamp
  have hs2 := h.seen
  have hs3 := h.cells
  have hs4 := h.stripes
  have hs5 := h.was
  dsimp only at hs1 hs2 hs3 hs4 hs5
  subst hs1 hs2 hs3 hs4 hs5
  by_cases hf : x.pat.fin = 0
  · obtain ⟨g1, g2, g3, g4, g5, g6, g7, g8, g9, g10⟩ := h.go hf
    dsimp only at g3 g4 g5 g6 g7 g8 g9 g10
    obtain ⟨k01, k23, k4, k5, k6, k7⟩ := h.ok.here hf
    have hfin : yp.fin = x.pat.fin := h.fin
    have herr : yp.err = x.pat.err := h.err
    have hby : yp.by_ = x.pat.by_ := h.by_
    subst g3
    have hst := h.ok.st
    have hyf : yp.fin = 0 := by rw [hfin]; exact hf
    unfold comTell at *
    unfold rTell
    dsimp only
    rw [if_pos hyf]
    by_cases he : a.err = 0
    · rw [if_pos he]
      have e : x.pat.stopped a.err = x.pat := by rw [he]; unfold Pat.stopped; rw [if_neg (by simp)]
      rw [e, if_pos hf] at hok ⊢
      have cb : CB x ⟨yp, x.stamp, x.seen, x.cells, x.stripes, x.was, lk, x.state, pos, t, yfn, yer, yby⟩ := ⟨h.ok.len, h.me, h.me2, hf, g1, g2, rfl, rfl, rfl, rfl, rfl⟩
      have cg : x.state ≠ 7 → CG x ⟨yp, x.stamp, x.seen, x.cells, x.stripes, x.was, lk, x.state, pos, t, yfn, yer, yby⟩ := fun c => ⟨cb, hyf, by show yp.by_ = _; rw [hby]; exact g1, by show yp.err = _; rw [herr]; exact g2, g4 c⟩
      by_cases c0 : x.state = 0
      · rw [if_pos (.inl c0)] at hok ⊢
        rw [if_pos (.inl c0)]
        unfold comTake rLocks at *
        dsimp only at hok ⊢
        rw [if_pos c0] at hok ⊢
        rw [if_neg (show ¬ x.state = 1 by omega)]
        by_cases hh : a.lock.held = true
        · rw [if_pos hh] at hok ⊢
          rw [if_pos hh]
          exact (cg (by omega)).held h (by omega) a.lock
        · rw [if_neg hh] at hok ⊢
          rw [if_neg hh, if_pos c0]
          exact ⟨hok, h.me, h.me2, h.fin, h.err, h.by_, rfl, rfl, rfl, rfl, rfl,
            fun _ => ⟨g1, g2, rfl, fun _ => g4 (by omega), fun _ => g5 (.inl c0), fun g => by simp at g, fun g => by simp at g, fun _ => rfl, fun g => by simp at g, fun g => by simp at g⟩⟩
      by_cases c1 : x.state = 1
      · rw [if_pos (.inr c1)] at hok ⊢
        rw [if_pos (.inr (.inl c1))]
        unfold comTake rLocks at *
        dsimp only at hok ⊢
        rw [if_neg c0] at hok ⊢
        rw [if_pos c1]
        have hk := (k01 (.inr c1)).1
        have hp0 := (k01 (.inr c1)).2
        by_cases hd : a.done = true
        · rw [if_pos hd] at hok ⊢
          rw [if_neg (by rw [hd]; decide), g5 (.inr c1), g8 c1]
          unfold comMore at *
          simp only [List.length_append, List.length_singleton] at hok ⊢
          by_cases hl : x.was.length + 1 = x.stripes.length
          · rw [if_pos hl] at hok ⊢
            rw [if_pos hl]
            exact ⟨hok, h.me, h.me2, h.fin, h.err, h.by_, rfl, rfl, rfl, rfl, rfl,
              fun _ => ⟨g1, g2, rfl, fun _ => g4 (by omega), fun g => by simp at g, fun _ => rfl, fun g => by simp at g, fun g => by simp at g, fun g => by simp at g, fun g => by simp at g⟩⟩
          · rw [if_neg hl] at hok ⊢
            rw [if_neg hl]
            exact ⟨hok, h.me, h.me2, h.fin, h.err, h.by_, rfl, rfl, rfl, rfl, rfl,
              fun _ => ⟨g1, g2, rfl, fun _ => g4 (by omega), fun _ => by simp, fun g => by simp at g, fun g => by simp at g, fun g => by simp at g, fun g => by simp at g, fun g => by simp at g⟩⟩
        · rw [if_neg hd] at hok ⊢
          rw [if_pos (by simpa using hd)]
          exact ⟨hok, h.me, h.me2, h.fin, h.err, h.by_, rfl, rfl, rfl, rfl, rfl,
            fun _ => ⟨g1, g2, rfl, fun _ => g4 (by omega), fun _ => g5 (.inr c1), fun g => by simp at g, fun g => by simp at g, fun g => by simp at g, fun g => by simp at g, fun g => by simp at g⟩⟩
      rw [if_neg (show ¬ (x.state = 0 ∨ x.state = 1) by omega)] at hok ⊢
      by_cases c2 : x.state = 2
      · rw [if_pos (.inl c2)] at hok ⊢
        rw [if_neg (show ¬ (x.state = 0 ∨ x.state = 1 ∨ x.state = 4) by omega), if_pos c2]
        unfold comRaise at *
        rw [if_pos c2] at hok ⊢
        by_cases hc : 4611686018427387903 ≤ a.word
        · rw [if_pos hc] at hok ⊢
          rw [if_pos hc]
          have cb2 : CB x ⟨yp, x.stamp, x.seen, x.cells, x.stripes, x.was, lk, 3, pos, a.word, yfn, yer, yby⟩ := ⟨h.ok.len, h.me, h.me2, hf, g1, g2, rfl, rfl, rfl, rfl, rfl⟩
          exact cb2.stop (e := 4) (by decide)
        · rw [if_neg hc] at hok ⊢
          rw [if_neg hc]
          exact ⟨hok, h.me, h.me2, h.fin, h.err, h.by_, rfl, rfl, rfl, rfl, rfl,
            fun _ => ⟨g1, g2, rfl, fun _ => g4 (by omega), fun g => by simp at g, fun _ => g6 (.inl c2), fun g => by simp at g, fun g => by simp at g, fun _ _ => rfl, fun g => by simp at g⟩⟩
      by_cases c3 : x.state = 3
      · rw [if_pos (.inr c3)] at hok ⊢
        rw [if_neg (show ¬ (x.state = 0 ∨ x.state = 1 ∨ x.state = 4) by omega), if_neg c2, if_pos c3]
        unfold comRaise at *
        rw [if_neg c2] at hok ⊢
        have hk := k23 (.inr c3)
        by_cases hd : a.done = false
        · rw [if_pos hd] at hok ⊢
          rw [if_pos hd]
          exact ⟨hok, h.me, h.me2, h.fin, h.err, h.by_, rfl, rfl, rfl, rfl, rfl,
            fun _ => ⟨g1, g2, rfl, fun _ => g4 (by omega), fun g => by simp at g, fun _ => g6 (.inr c3), fun g => by simp at g, fun g => by simp at g, fun g => by simp at g, fun g => by simp at g⟩⟩
        · rw [if_neg hd] at hok ⊢
          rw [if_neg hd]
          have ht := g9 (by omega) (by omega)
          have cg2 : CG x ⟨yp, x.stamp, x.seen, x.cells, x.stripes, x.was, lk, 4, 0, t, yfn, yer, yby⟩ := ⟨⟨h.ok.len, h.me, h.me2, hf, g1, g2, rfl, rfl, rfl, rfl, rfl⟩, hyf, by show yp.by_ = _; rw [hby]; exact g1, by show yp.err = _; rw [herr]; exact g2, g4 (by omega)⟩
          rw [ht]
          rw [ht] at cg2
          by_cases hn : x.now = x.stamp
          · rw [if_pos hn] at hok ⊢
            rw [if_pos hn]
            exact cg2.write hk.1 rfl
          · rw [if_neg hn] at hok ⊢
            rw [if_neg hn]
            exact cg2.look hk.1 rfl rfl (by show 0 = x.pos; rw [hk.2]) (by omega)
      rw [if_neg (show ¬ (x.state = 2 ∨ x.state = 3) by omega)] at hok ⊢
      by_cases c4 : x.state = 4
      · rw [if_pos c4] at hok ⊢
        rw [if_pos (.inr (.inr c4))]
        unfold comProved rLocks at *
        dsimp only at hok ⊢
        have hk := k4 c4
        have ht := g9 (by omega) (by omega)
        rw [if_neg c1]
        by_cases hh : a.lock.held = true
        · rw [if_pos hh] at hok ⊢
          rw [if_pos hh]
          exact (cg (by omega)).held h (by omega) a.lock
        · rw [if_neg hh] at hok ⊢
          rw [if_neg hh, if_neg c0, g7 (by omega)]
          by_cases hv : a.lock.version = (x.seen.getD x.pos ⟨0, 0⟩).version
          · rw [if_pos hv] at hok ⊢
            rw [if_pos hv]
            have cg2 : CG { x with pos := x.pos + 1 } ⟨yp, x.stamp, x.seen, x.cells, x.stripes, x.was, lk, x.state, x.pos + 1, t, yfn, yer, yby⟩ := ⟨⟨h.ok.len.eqs rfl rfl rfl rfl, h.me, h.me2, hf, g1, g2, rfl, rfl, rfl, rfl, rfl⟩, hyf, by show yp.by_ = _; rw [hby]; exact g1, by show yp.err = _; rw [herr]; exact g2, g4 (by omega)⟩
            exact cg2.look hk.1 ht c4 rfl hk.2
          · rw [if_neg hv] at hok ⊢
            rw [if_neg hv]
            rw [g7 (by omega)] at cb
            exact cb.stop (e := 5) (by decide)
      rw [if_neg c4] at hok ⊢
      rw [if_neg (show ¬ (x.state = 0 ∨ x.state = 1 ∨ x.state = 4) by omega), if_neg c2, if_neg c3]
      by_cases c5 : x.state = 5
      · rw [if_pos c5] at hok ⊢
        rw [if_pos c5, g7 (by omega)]
        have hk := k5 c5
        have ht := g9 (by omega) (by omega)
        unfold comWrite at *
        simp only at hok ⊢
        by_cases hl : x.pos + 1 = x.cells.length
        · rw [if_pos hl] at hok ⊢
          rw [if_pos hl]
          have cg2 : CG { x with pos := x.pos + 1 } ⟨yp, x.stamp, x.seen, x.cells, x.stripes, x.was, lk, x.state, x.pos + 1, t, yfn, yer, yby⟩ := ⟨⟨h.ok.len.eqs rfl rfl rfl rfl, h.me, h.me2, hf, g1, g2, rfl, rfl, rfl, rfl, rfl⟩, hyf, by show yp.by_ = _; rw [hby]; exact g1, by show yp.err = _; rw [herr]; exact g2, g4 (by omega)⟩
          have := cg2.free hk.1 ht
          exact this
        · rw [if_neg hl] at hok ⊢
          rw [if_neg hl]
          exact ⟨hok, h.me, h.me2, h.fin, h.err, h.by_, rfl, rfl, rfl, rfl, rfl,
            fun _ => ⟨g1, g2, rfl, fun _ => g4 (by omega), fun g => by simp only at g; omega, fun g => by simp only at g; omega, fun _ => rfl, fun g => by simp only at g; omega, fun _ _ => ht, fun g => by simp only at g; omega⟩⟩
      rw [if_neg c5] at hok ⊢
      rw [if_neg c5]
      by_cases c6 : x.state = 6
      · rw [if_pos c6] at hok ⊢
        rw [if_pos c6, g7 (by omega)]
        have hk := k6 c6
        have ht := g9 (by omega) (by omega)
        unfold comGive at *
        simp only at hok ⊢
        by_cases hl : x.pos + 1 = x.stripes.length
        · rw [if_pos hl] at hok ⊢
          rw [if_pos hl]
          exact ⟨hok, h.me, h.me2, rfl, by show yp.err = 0; rw [herr]; exact g2, by show yp.by_ = -1; rw [hby]; exact g1, rfl, rfl, rfl, rfl, rfl, fun g => by simp [Pat.stop] at g⟩
        · rw [if_neg hl] at hok ⊢
          rw [if_neg hl]
          exact ⟨hok, h.me, h.me2, h.fin, h.err, h.by_, rfl, rfl, rfl, rfl, rfl,
            fun _ => ⟨g1, g2, rfl, fun _ => g4 (by omega), fun g => by simp only at g; omega, fun g => by simp only at g; omega, fun _ => rfl, fun g => by simp only at g; omega, fun _ _ => ht, fun g => by simp only at g; omega⟩⟩
      rw [if_neg c6] at hok ⊢
      rw [if_neg c6, g7 (by omega)]
      have c7 : x.state = 7 := by omega
      obtain ⟨q1, q2, q3⟩ := g10 c7
      have hk := k7 c7
      unfold comLeave at *
      simp only at hok ⊢
      by_cases hl : x.pos + 1 = x.was.length
      · rw [if_pos hl] at hok ⊢
        rw [if_pos hl]
        exact ⟨hok, h.me, h.me2, q1, q2, q3, rfl, rfl, rfl, rfl, rfl, fun g => absurd g hk.2⟩
      · rw [if_neg hl] at hok ⊢
        rw [if_neg hl]
        exact ⟨hok, h.me, h.me2, h.fin, h.err, h.by_, rfl, rfl, rfl, rfl, rfl,
          fun _ => ⟨g1, g2, rfl, fun g => absurd c7 g, fun g => by simp only at g; omega, fun g => by simp only at g; omega, fun _ => rfl, fun g => by simp only at g; omega, fun _ g => by simp only at g; omega, fun _ => ⟨q1, q2, q3⟩⟩⟩
    · rw [if_neg he]
      have e : x.pat.stopped a.err = x.pat.stop 4 a.err (-1) := by unfold Pat.stopped; rw [if_pos ⟨hf, he⟩]
      rw [e, if_neg (by simp [Pat.stop])] at hok ⊢
      have e2 : yp.rfail a.err = { yp with fin := 4, err := a.err } := by unfold Pat.rfail; rw [if_neg he]
      rw [e2]
      exact ⟨hok, h.me, h.me2, rfl, rfl, by show yp.by_ = -1; rw [hby]; exact g1, rfl, rfl, rfl, rfl, rfl, fun g => by simp [Pat.stop] at g⟩
  · have hyf : ¬ yp.fin = 0 := by have e : yp.fin = x.pat.fin := h.fin; rw [e]; exact hf
    have e : x.pat.stopped a.err = x.pat := by unfold Pat.stopped; rw [if_neg (fun g => hf g.1)]
    have e2 : comTell x a = { x with pat := x.pat } := by unfold comTell; rw [e, if_neg hf]
    have e3 : rTell ⟨yp, x.stamp, x.seen, x.cells, x.stripes, x.was, lk, ph, pos, t, yfn, yer, yby⟩ a = ⟨yp, x.stamp, x.seen, x.cells, x.stripes, x.was, lk, ph, pos, t, yfn, yer, yby⟩ := by unfold rTell; rw [if_neg hyf]
    rw [e2, e3]
    exact h

theorem CRel.new (me sp stamp : Int) (seen : List TSeen) (cells : List TCell) (S : List Int) (hok : ComOk (comNew me sp stamp seen cells S)) : CRel (comNew me sp stamp seen cells S) (rNew me sp stamp seen cells S) := by
  have hq := held_le (n := sp) (show (0 : Int) ≤ 4 by omega)
  refine ⟨hok, rfl, rfl, rfl, rfl, rfl, rfl, rfl, rfl, rfl, rfl, fun _ => ⟨rfl, rfl, ?_, fun _ => ⟨rfl, hq⟩, fun _ => rfl, fun _ => rfl, fun _ => rfl, ?_, ?_, ?_⟩⟩
  · show (if S.length = 0 then 2 else 0) = if 0 = S.length then (2 : Int) else 0
    split <;> split <;> omega
  · intro g
    have : (if 0 = S.length then (2 : Int) else 0) = 1 := g
    split at this <;> omega
  · intro g
    have : (3 : Int) ≤ if 0 = S.length then 2 else 0 := g
    split at this <;> omega
  · intro g
    have : (if 0 = S.length then (2 : Int) else 0) = 7 := g
    split at this <;> omega

end Go.Proofs.YtokbiojkpldfeaaGreat.S
