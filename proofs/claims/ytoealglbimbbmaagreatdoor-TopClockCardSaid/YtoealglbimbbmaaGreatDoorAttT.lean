/-
  AN ATTEMPT (package attempt): its next operation, what an answer does.
-/
import Derived.Test.YtoealglbimbbmaaGreatDoorAtt
namespace Go.Proofs.YtoealglbimbbmaaGreatDoor.S
open Go Go.Proofs
set_option linter.unusedVariables false
set_option linter.unusedSimpArgs false

abbrev Inn.isCom : Inn → Bool
  | .com _ => true
  | _ => false
/-- a view of 40 words of which nothing is known -/
abbrev vwN (need : Int) : VwS := ⟨40, [], ⟨9, ⟨[], []⟩, []⟩, need⟩
abbrev vwK (c need w : Int) : VwS := ⟨40, [⟨c, w⟩], ⟨9, ⟨[], []⟩, []⟩, need⟩
abbrev vwW (c need w y : Int) : VwS := ⟨40, [⟨c, w⟩], ⟨9, ⟨[⟨c, y⟩], []⟩, []⟩, need⟩
theorem vwN_read {c m : Int} (h1 : 6 ≤ c) (h2 : c ≤ 15) : vRead (vwN m) c = (vwN c, 0, 11) := by
  have : isV (vwN m) c = true := by unfold isV; simp; omega
  unfold vRead
  rw [this]
  simp [lookR, lookC]
theorem vwK_read {c m w : Int} (h1 : 6 ≤ c) (h2 : c ≤ 15) : vRead (vwK c m w) c = (vwK c m w, w, 0) := by
  have : isV (vwK c m w) c = true := by unfold isV; simp; omega
  unfold vRead
  rw [this]
  simp [lookR, lookC]
theorem vwN_know {c m w : Int} (h1 : 6 ≤ c) (h2 : c ≤ 15) : vKnow (vwN m) c w = (vwK c m w, 0) := by
  have : isV (vwN m) c = true := by unfold isV; simp; omega
  unfold vKnow
  rw [this]
  simp [lookC]
theorem vwK_write {c m w y : Int} (h1 : 6 ≤ c) (h2 : c ≤ 15) : vWrite (vwK c m w) c y = (vwW c m w y, 0) := by
  have h3 : isV (vwK c m w) c = true := by unfold isV; simp; omega
  have h4 : okAt c = true := by unfold okAt; simp; omega
  unfold vWrite
  rw [h3]
  simp [lErr, h4, idxC, LvS.room, totalC, LvS.put, putC]

abbrev attOut (x : AttS) (e er b : Int) : AttS := { x with fin := e, err := er, by_ := b, state := 7 }
abbrev attAsk (x : AttS) (c : Int) : AttS := { x with inn := .fetch (fetchNew x.me c (stripeOf c x.s.stripes x.s.wide) x.s.spins x.stamp), state := 3 }
abbrev attLater (x : AttS) (st : Int) : AttS := { x with inn := .ext (extNew x.me x.s.spins x.rd), state := st }
abbrev progOf (c : Int) (rdo : Bool) : List TIns := if rdo then readsP c else addsP c
abbrev attNeeds (c : Int) (rdo : Bool) (x : AttS) : AttS := attAsk { x with run := intStart (progOf c rdo) 1, v := vwN c } c
abbrev attAdds (c w : Int) (x : AttS) : AttS := { x with run := intAdded c (w + 1), v := vwW c c w (w + 1), inn := .com (comNew x.me x.s.spins x.stamp x.rd [⟨c, w + 1⟩] (marked (hasStripe [⟨c, w + 1⟩] x.s.stripes x.s.wide) 16)), state := 6 }
abbrev attReads (c w : Int) (x : AttS) : AttS := attOut { x with run := intRead c w, v := vwK c c w } 2 0 (-1)

section
variable {w0 : Base} {L M : List Asn} {K : KV} {F : World → Prop} {C : Asn → List Asn} {b pr pv pq : Nat} {x : AttS} {v iv vf ve vc : Value} {i : Inn} {c n m w : Int} {rdo : Bool}

theorem G.innDrop (h : i.isCom = false) (H : vc = .pointer none → G w0 M F) : G w0 (ob InnR (iv, vf, ve, vc) i :: M) F := by
  cases i with
  | none => rw [Inn_none]; exact H
  | fetch f => rw [Inn_fetch]; intro p e; exact (H e.2.2).sub
  | ext f => rw [Inn_ext]; intro p e; exact (H e.2.2).sub
  | com f => cases h

theorem s_attempt_out {e er by_ : Int} [i : SelOb L AttR b x C] (hK : G w0 (C (ob AttR b (attOut x e er by_))) (K (.tuple #[]))) : G w0 L (CP Tryz.prog Fn.attempt_Attempt_out [ptr b 0, i64 e, i64 er, i64 by_] K) := by
  refine i.use (fun M hK => ?_) hK
  refine C_attempt_Attempt_out ?_
  unfold S_attempt_Attempt_out
  rw [AttR_open] at *
  intro iv vf ve vc pr pv pq
  have hK := hK iv vf ve vc pr pv pq
  try simp (maxSteps := 2000000) only [↓RG, RP, RB, BEq.rfl, Int.reduceEq, Int.reduceLT, Int.reduceLE, Nat.reduceEqDiff]
  exact hK

theorem s_attempt_ask (hc : x.inn.isCom = false) [i : SelOb L AttR b x C] (hK : G w0 (C (ob AttR b (attAsk x c))) (K (.tuple #[]))) : G w0 L (CP Tryz.prog Fn.attempt_Attempt_ask [ptr b 0, i64 c] K) := by
  refine i.use (fun M hK => ?_) hK
  refine C_attempt_Attempt_ask ?_
  unfold S_attempt_Attempt_ask
  rw [AttR_open]
  intro iv vf ve vc pr pv pq
  refine G.take1 InnR (iv, vf, ve, vc) ?_
  refine G.innDrop hc fun e => ?_
  subst e
  refine G.drew ?_
  try simp (maxSteps := 2000000) only [↓RG, RP, RB, BEq.rfl, Int.reduceEq, Int.reduceLT, Int.reduceLE, Nat.reduceEqDiff]
  refine s_stripe_Of ?_
  try simp (maxSteps := 2000000) only [↓RG, RP, RB, BEq.rfl, Int.reduceEq, Int.reduceLT, Int.reduceLE, Nat.reduceEqDiff]
  refine s_fetch_New fun p => ?_
  try simp (maxSteps := 2000000) only [↓RG, RP, RB, BEq.rfl, Int.reduceEq, Int.reduceLT, Int.reduceLE, Nat.reduceEqDiff]
  refine C_attempt_Attempt_enter ?_
  unfold S_attempt_Attempt_enter
  try simp (maxSteps := 2000000) only [↓RG, RP, RB, BEq.rfl, Int.reduceEq, Int.reduceLT, Int.reduceLE, Nat.reduceEqDiff]
  refine Att_fetch (p := p) b (attAsk x c) ve pr pv pq rfl ?_
  exact hK

theorem s_attempt_later {st : Int} (hc : x.inn.isCom = false) (hl : x.rd.length ≤ 1000000) [i : SelOb L AttR b x C] (hK : G w0 (C (ob AttR b (attLater x st))) (K (.tuple #[]))) : G w0 L (CP Tryz.prog Fn.attempt_Attempt_later [ptr b 0, i64 st] K) := by
  refine i.use (fun M hK => ?_) hK
  refine C_attempt_Attempt_later ?_
  unfold S_attempt_Attempt_later
  rw [AttR_open]
  intro iv vf ve vc pr pv pq
  refine G.take1 InnR (iv, vf, ve, vc) ?_
  refine G.innDrop hc fun e => ?_
  subst e
  refine G.drew ?_
  try simp (maxSteps := 2000000) only [↓RG, RP, RB, BEq.rfl, Int.reduceEq, Int.reduceLT, Int.reduceLE, Nat.reduceEqDiff]
  refine s_reads_Reads_All (xs := x.rd) hl fun u hu => ?_
  try simp (maxSteps := 2000000) only [↓RG, RP, RB, BEq.rfl, Int.reduceEq, Int.reduceLT, Int.reduceLE, Nat.reduceEqDiff]
  refine s_extend_New (xs := x.rd) hl fun p => ?_
  try simp (maxSteps := 2000000) only [↓RG, RP, RB, BEq.rfl, Int.reduceEq, Int.reduceLT, Int.reduceLE, Nat.reduceEqDiff]
  refine C_attempt_Attempt_enter ?_
  unfold S_attempt_Attempt_enter
  try simp (maxSteps := 2000000) only [↓RG, RP, RB, BEq.rfl, Int.reduceEq, Int.reduceLT, Int.reduceLE, Nat.reduceEqDiff]
  refine Att_ext (p := p) b (attLater x st) vf pr pv pq rfl ?_
  exact hK.sub

/-- the program runs: the word isn't known -/
theorem s_work_needs (h1 : 6 ≤ c) (h2 : c ≤ 15) (hc : x.inn.isCom = false) (hr : x.run = intStart (progOf c rdo) n) (hv : x.v = vwN m) [i : SelOb L AttR b x C] (hK : G w0 (C (ob AttR b (attNeeds c rdo x))) (K (.tuple #[]))) :
    G w0 L (CP Tryz.prog Fn.attempt_Attempt_work [ptr b 0] K) := by
  refine i.use (fun M hK => ?_) hK
  refine C_attempt_Attempt_work ?_
  unfold S_attempt_Attempt_work
  refine C_attempt_Attempt_do ?_
  unfold S_attempt_Attempt_do
  rw [AttR_open]
  intro iv vf ve vc pr pv pq
  repeat' (first | (with_reducible refine G.joini0 ?_) | (with_reducible refine G.joini1 ?_) | (with_reducible refine G.drew ?_) | (simp (maxSteps := 2000000) only [↓RG, RP, RB, BEq.rfl, Int.reduceEq, Int.reduceLT, Int.reduceLE, Nat.reduceEqDiff]))
  refine G.pickAll (As := [ob IntR (pr, pv) x.run, ob ViewR pv x.v]) ?_
  simp only [List.cons_append, List.nil_append]
  rw [hr, hv]
  refine s_Run_needs h1 h2 (by cases rdo; exact .inl rfl; exact .inr rfl) (by rw [vwN_read h1 h2]) ?_
  rw [vwN_read h1 h2]
  repeat' (first | (with_reducible refine G.joini0 ?_) | (with_reducible refine G.joini1 ?_) | (with_reducible refine G.drew ?_) | (simp (maxSteps := 2000000) only [↓RG, RP, RB, BEq.rfl, Int.reduceEq, Int.reduceLT, Int.reduceLE, Nat.reduceEqDiff]))
  refine s_interp_Err (vp := pv) (x := intStart (progOf c rdo) 1) ?_
  repeat' (first | (with_reducible refine G.joini0 ?_) | (with_reducible refine G.joini1 ?_) | (with_reducible refine G.drew ?_) | (simp (maxSteps := 2000000) only [↓RG, RP, RB, BEq.rfl, Int.reduceEq, Int.reduceLT, Int.reduceLE, Nat.reduceEqDiff]))
  refine s_view_Need (s := vwN c) ?_
  refine AttR_close b { x with run := intStart (progOf c rdo) 1, v := vwN c } iv vf ve vc pr pv pq ?_
  refine s_attempt_ask (x := { x with run := intStart (progOf c rdo) 1, v := vwN c }) hc ?_
  repeat' (first | (with_reducible refine G.joini0 ?_) | (with_reducible refine G.joini1 ?_) | (with_reducible refine G.drew ?_) | (simp (maxSteps := 2000000) only [↓RG, RP, RB, BEq.rfl, Int.reduceEq, Int.reduceLT, Int.reduceLE, Nat.reduceEqDiff]))
  exact hK

theorem cells_one : (vwW c m w n).l.cells = [⟨c, n⟩] := rfl

/-- it runs to its end: it has added -/
theorem s_work_adds (h1 : 6 ≤ c) (h2 : c ≤ 15) (hc : x.inn.isCom = false) (hl : x.rd.length ≤ 100000) (hw : 0 ≤ w ∧ w < 1000000) (hr : x.run = intStart (addsP c) n) (hv : x.v = vwK c c w) [i : SelOb L AttR b x C] (hK : G w0 (C (ob AttR b (attAdds c w x))) (K (.tuple #[]))) :
    G w0 L (CP Tryz.prog Fn.attempt_Attempt_work [ptr b 0] K) := by
  refine i.use (fun M hK => ?_) hK
  refine C_attempt_Attempt_work ?_
  unfold S_attempt_Attempt_work
  refine C_attempt_Attempt_do ?_
  unfold S_attempt_Attempt_do
  rw [AttR_open]
  intro iv vf ve vc pr pv pq
  repeat' (first | (with_reducible refine G.joini0 ?_) | (with_reducible refine G.joini1 ?_) | (with_reducible refine G.drew ?_) | (simp (maxSteps := 2000000) only [↓RG, RP, RB, BEq.rfl, Int.reduceEq, Int.reduceLT, Int.reduceLE, Nat.reduceEqDiff]))
  refine G.pickAll (As := [ob IntR (pr, pv) x.run, ob ViewR pv x.v]) ?_
  simp only [List.cons_append, List.nil_append]
  rw [hr, hv]
  refine s_Run_adds h1 h2 hw (vwK_read h1 h2) (by rw [vwK_write h1 h2]) ?_
  rw [vwK_write h1 h2]
  repeat' (first | (with_reducible refine G.joini0 ?_) | (with_reducible refine G.joini1 ?_) | (with_reducible refine G.drew ?_) | (simp (maxSteps := 2000000) only [↓RG, RP, RB, BEq.rfl, Int.reduceEq, Int.reduceLT, Int.reduceLE, Nat.reduceEqDiff]))
  refine s_interp_Err (vp := pv) (x := intAdded c (w + 1)) ?_
  repeat' (first | (with_reducible refine G.joini0 ?_) | (with_reducible refine G.joini1 ?_) | (with_reducible refine G.drew ?_) | (simp (maxSteps := 2000000) only [↓RG, RP, RB, BEq.rfl, Int.reduceEq, Int.reduceLT, Int.reduceLE, Nat.reduceEqDiff]))
  refine s_view_Cells (s := vwW c c w (w + 1)) fun u hu => ?_
  rw [cells_one]
  repeat' (first | (with_reducible refine G.joini0 ?_) | (with_reducible refine G.joini1 ?_) | (with_reducible refine G.drew ?_) | (simp (maxSteps := 2000000) only [↓RG, RP, RB, BEq.rfl, Int.reduceEq, Int.reduceLT, Int.reduceLE, Nat.reduceEqDiff, List.length_cons, List.length_nil, Nat.reduceAdd, Int.cast_ofNat_Int]))
  refine s_reads_Reads_All (xs := x.rd) (by omega) fun u2 hu2 => ?_
  repeat' (first | (with_reducible refine G.joini0 ?_) | (with_reducible refine G.joini1 ?_) | (with_reducible refine G.drew ?_) | (simp (maxSteps := 2000000) only [↓RG, RP, RB, BEq.rfl, Int.reduceEq, Int.reduceLT, Int.reduceLE, Nat.reduceEqDiff]))
  refine s_commit_New (seen := x.rd) (cells := [⟨c, w + 1⟩]) hl (by simp) fun p => ?_
  repeat' (first | (with_reducible refine G.joini0 ?_) | (with_reducible refine G.joini1 ?_) | (with_reducible refine G.drew ?_) | (simp (maxSteps := 2000000) only [↓RG, RP, RB, BEq.rfl, Int.reduceEq, Int.reduceLT, Int.reduceLE, Nat.reduceEqDiff]))
  refine C_attempt_Attempt_enter ?_
  unfold S_attempt_Attempt_enter
  repeat' (first | (with_reducible refine G.joini0 ?_) | (with_reducible refine G.joini1 ?_) | (with_reducible refine G.drew ?_) | (simp (maxSteps := 2000000) only [↓RG, RP, RB, BEq.rfl, Int.reduceEq, Int.reduceLT, Int.reduceLE, Nat.reduceEqDiff]))
  refine Att_com (p := p) b (attAdds c w x) vf ve pr pv pq rfl ?_
  exact hK.sub

/-- it runs to its end: it has read -/
theorem s_work_reads (h1 : 6 ≤ c) (h2 : c ≤ 15) (hr : x.run = intStart (readsP c) n) (hv : x.v = vwK c c w) [i : SelOb L AttR b x C] (hK : G w0 (C (ob AttR b (attReads c w x))) (K (.tuple #[]))) :
    G w0 L (CP Tryz.prog Fn.attempt_Attempt_work [ptr b 0] K) := by
  refine i.use (fun M hK => ?_) hK
  refine C_attempt_Attempt_work ?_
  unfold S_attempt_Attempt_work
  refine C_attempt_Attempt_do ?_
  unfold S_attempt_Attempt_do
  rw [AttR_open]
  intro iv vf ve vc pr pv pq
  repeat' (first | (with_reducible refine G.joini0 ?_) | (with_reducible refine G.joini1 ?_) | (with_reducible refine G.drew ?_) | (simp (maxSteps := 2000000) only [↓RG, RP, RB, BEq.rfl, Int.reduceEq, Int.reduceLT, Int.reduceLE, Nat.reduceEqDiff]))
  refine G.pickAll (As := [ob IntR (pr, pv) x.run, ob ViewR pv x.v]) ?_
  simp only [List.cons_append, List.nil_append]
  rw [hr, hv]
  refine s_Run_reads h1 h2 (vwK_read h1 h2) ?_
  repeat' (first | (with_reducible refine G.joini0 ?_) | (with_reducible refine G.joini1 ?_) | (with_reducible refine G.drew ?_) | (simp (maxSteps := 2000000) only [↓RG, RP, RB, BEq.rfl, Int.reduceEq, Int.reduceLT, Int.reduceLE, Nat.reduceEqDiff]))
  refine s_interp_Err (vp := pv) (x := intRead c w) ?_
  repeat' (first | (with_reducible refine G.joini0 ?_) | (with_reducible refine G.joini1 ?_) | (with_reducible refine G.drew ?_) | (simp (maxSteps := 2000000) only [↓RG, RP, RB, BEq.rfl, Int.reduceEq, Int.reduceLT, Int.reduceLE, Nat.reduceEqDiff]))
  refine s_view_Cells (s := vwK c c w) fun u hu => ?_
  rw [show (vwK c c w).l.cells = [] from rfl]
  repeat' (first | (with_reducible refine G.joini0 ?_) | (with_reducible refine G.joini1 ?_) | (with_reducible refine G.drew ?_) | (simp (maxSteps := 2000000) only [↓RG, RP, RB, BEq.rfl, Int.reduceEq, Int.reduceLT, Int.reduceLE, Nat.reduceEqDiff, List.length_nil, Int.cast_ofNat_Int]))
  refine AttR_close b { x with run := intRead c w, v := vwK c c w } iv vf ve vc pr pv pq ?_
  refine s_attempt_out (x := { x with run := intRead c w, v := vwK c c w }) ?_
  repeat' (first | (with_reducible refine G.joini0 ?_) | (with_reducible refine G.joini1 ?_) | (with_reducible refine G.drew ?_) | (simp (maxSteps := 2000000) only [↓RG, RP, RB, BEq.rfl, Int.reduceEq, Int.reduceLT, Int.reduceLE, Nat.reduceEqDiff]))
  exact hK.sub

/-- the word is known: on with the program -/
abbrev attKnown (c : Int) (rdo : Bool) (x : AttS) (w : Int) : AttS := match rdo with | true => attReads c w x | false => attAdds c w x
/-- the machine at work has ended, without a conflict -/
abbrev attEnded (c : Int) (rdo : Bool) (x : AttS) : AttS := match x.inn with
  | .none => x
  | .fetch f => if f.pat.fin = 6 then attLater x 4 else attKnown c rdo { x with rd := [⟨f.stripe, f.lock.version⟩] } f.word
  | .ext e => attAsk { x with stamp := e.stamp } c
  | .com m => attOut x m.pat.fin m.pat.err (-1)
abbrev Inn.stamp : Inn → Int
  | .com m => if m.writing = true then IntKind.wrap .u64 (m.now + 1) else 0
  | _ => 0
abbrev attMark (x : AttS) : AttS := if x.wr = true then { x with stamp := x.inn.stamp } else x
abbrev attTold (c : Int) (rdo : Bool) (x : AttS) : AttS := attMark (if x.inn.fin = 0 then x else if x.inn.fin = 5 then attOut x 5 0 x.inn.by_ else attEnded c rdo x)
abbrev attTell (c : Int) (rdo : Bool) (x : AttS) (a : TAns) : AttS :=
  if x.state = 8 then x
  else if x.state = 0 then { x with state := 1 }
  else if x.state = 1 then { x with begun := true, beg := a.word, stamp := a.word, state := 2 }
  else if x.state = 2 then attNeeds c rdo x
  else if x.state = 7 then { x with state := 8 }
  else attTold c rdo { x with inn := x.inn.tell a }
abbrev attNext (x : AttS) : TOp × Bool :=
  if x.state = 0 then (⟨9, x.me, 0, 1, zeroLock, zeroLock⟩, true)
  else if x.state = 1 then (⟨6, 0, 0, 0, zeroLock, zeroLock⟩, true)
  else if x.state = 2 then (⟨9, x.me, 0, IntKind.wrap .u64 (x.stamp + 1), zeroLock, zeroLock⟩, true)
  else if x.state = 7 then (⟨9, x.me, 0, 0, zeroLock, zeroLock⟩, true)
  else if x.state = 8 then (zeroOp, false)
  else x.inn.next

/-- what is so when the machine at work has heard an answer -/
structure ToldOk (c : Int) (rdo : Bool) (x : AttS) : Prop where
  ok : x.inn.ok
  fetch : ∀ f, x.inn = .fetch f → x.state = 3 ∧ x.run = intStart (progOf c rdo) 1 ∧ x.v = vwN c ∧ x.rd = [] ∧ (f.pat.fin = 0 ∨ f.pat.fin = 5 ∨ f.pat.fin = 6 ∨ f.pat.fin = 2) ∧ (f.pat.fin = 2 → 0 ≤ f.word ∧ f.word < 1000000 ∧ 0 ≤ f.stripe ∧ f.stripe < 16 ∧ f.lock.version < 4611686018427387904)
  ext : ∀ e, x.inn = .ext e → x.state = 4 ∧ x.v.need = c ∧ (e.pat.fin = 0 ∨ e.pat.fin = 5 ∨ e.pat.fin = 2)
  com : ∀ m, x.inn = .com m → x.state = 6

theorem s_attempt_fetched {f : FetchS} (h1 : 6 ≤ c) (h2 : c ≤ 15) (hx : x.inn = .fetch f) (hr : x.run = intStart (progOf c rdo) 1) (hv : x.v = vwN c) (hd : x.rd = []) (hf : f.pat.fin = 6 ∨ f.pat.fin = 2)
    (hw : f.pat.fin = 2 → 0 ≤ f.word ∧ f.word < 1000000 ∧ 0 ≤ f.stripe ∧ f.stripe < 16 ∧ f.lock.version < 4611686018427387904) [i : SelOb L AttR b x C]
    (hK : G w0 (C (ob AttR b (if f.pat.fin = 6 then attLater x 4 else attKnown c rdo { x with rd := [⟨f.stripe, f.lock.version⟩] } f.word))) (K (.tuple #[]))) : G w0 L (CP Tryz.prog Fn.attempt_Attempt_fetched [ptr b 0] K) := by
  refine i.use (fun M hK => ?_) hK
  refine C_attempt_Attempt_fetched ?_
  unfold S_attempt_Attempt_fetched
  rw [AttR_open]
  intro iv vf ve vc pr pv pq
  refine G.take1 InnR (iv, vf, ve, vc) ?_
  rw [hx, Inn_fetch]
  rintro p ⟨e1, e2, e3⟩
  subst e1 e2 e3
  try simp (maxSteps := 2000000) only [↓RG, RP, RB, BEq.rfl, Int.reduceEq, Int.reduceLT, Int.reduceLE, Nat.reduceEqDiff]
  refine s_fetch_Fetch_End (f := f) ?_
  rcases hf with h6 | hf2
  · rw [if_pos h6] at hK
    try simp (maxSteps := 2000000) only [↓RG, RP, RB, BEq.rfl, Int.reduceEq, Int.reduceLT, Int.reduceLE, Nat.reduceEqDiff, h6]
    refine Att_fetch (p := p) b x ve pr pv pq hx ?_
    refine s_attempt_later (x := x) (by rw [hx]) (by rw [hd]; simp) ?_
    try simp (maxSteps := 2000000) only [↓RG, RP, RB, BEq.rfl, Int.reduceEq, Int.reduceLT, Int.reduceLE, Nat.reduceEqDiff]
    exact hK
  · rw [if_neg (by omega)] at hK
    obtain ⟨w1, w2, w3, w4, w5⟩ := hw hf2
    have ha : addErr 16 x.rd ⟨f.stripe, f.lock.version⟩ = 0 := by
      rw [hd]; unfold addErr; rw [if_neg (by simp only; omega)]; rfl
    have hs : addSeen 16 x.rd ⟨f.stripe, f.lock.version⟩ = [⟨f.stripe, f.lock.version⟩] := by
      rw [hd]; unfold addSeen; rw [if_neg (by simp only; omega)]; rfl
    repeat' (first | (with_reducible refine G.joini0 ?_) | (with_reducible refine G.joini1 ?_) | (with_reducible refine G.drew ?_) | (simp (maxSteps := 2000000) only [↓RG, RP, RB, BEq.rfl, Int.reduceEq, Int.reduceLT, Int.reduceLE, Nat.reduceEqDiff, hf2]))
    refine s_fetch_Fetch_Seen (f := f) ?_
    rw [if_pos hf2]
    repeat' (first | (with_reducible refine G.joini0 ?_) | (with_reducible refine G.joini1 ?_) | (with_reducible refine G.drew ?_) | (simp (maxSteps := 2000000) only [↓RG, RP, RB, BEq.rfl, Int.reduceEq, Int.reduceLT, Int.reduceLE, Nat.reduceEqDiff]))
    refine s_reads_Reads_Add (m := 16) (xs := x.rd) (x := ⟨f.stripe, f.lock.version⟩) (by rw [hd]; simp) ?_
    rw [ha, hs]
    repeat' (first | (with_reducible refine G.joini0 ?_) | (with_reducible refine G.joini1 ?_) | (with_reducible refine G.drew ?_) | (simp (maxSteps := 2000000) only [↓RG, RP, RB, BEq.rfl, Int.reduceEq, Int.reduceLT, Int.reduceLE, Nat.reduceEqDiff]))
    refine s_view_Need (s := x.v) ?_
    repeat' (first | (with_reducible refine G.joini0 ?_) | (with_reducible refine G.joini1 ?_) | (with_reducible refine G.drew ?_) | (simp (maxSteps := 2000000) only [↓RG, RP, RB, BEq.rfl, Int.reduceEq, Int.reduceLT, Int.reduceLE, Nat.reduceEqDiff]))
    refine s_fetch_Fetch_Word (f := f) ?_
    rw [if_pos hf2]
    repeat' (first | (with_reducible refine G.joini0 ?_) | (with_reducible refine G.joini1 ?_) | (with_reducible refine G.drew ?_) | (simp (maxSteps := 2000000) only [↓RG, RP, RB, BEq.rfl, Int.reduceEq, Int.reduceLT, Int.reduceLE, Nat.reduceEqDiff]))
    refine s_view_Know (s := x.v) (by rw [hv]; simp) ?_
    rw [hv, vwN_know h1 h2]
    repeat' (first | (with_reducible refine G.joini0 ?_) | (with_reducible refine G.joini1 ?_) | (with_reducible refine G.drew ?_) | (simp (maxSteps := 2000000) only [↓RG, RP, RB, BEq.rfl, Int.reduceEq, Int.reduceLT, Int.reduceLE, Nat.reduceEqDiff]))
    refine Att_fetch (p := p) (f := f) b { x with rd := [⟨f.stripe, f.lock.version⟩], v := vwK c c f.word } ve pr pv pq hx ?_
    cases rdo with
    | true =>
      refine s_work_reads (x := { x with rd := [⟨f.stripe, f.lock.version⟩], v := vwK c c f.word }) (n := 1) h1 h2 hr rfl ?_
      repeat' (first | (with_reducible refine G.joini0 ?_) | (with_reducible refine G.joini1 ?_) | (with_reducible refine G.drew ?_) | (simp (maxSteps := 2000000) only [↓RG, RP, RB, BEq.rfl, Int.reduceEq, Int.reduceLT, Int.reduceLE, Nat.reduceEqDiff]))
      exact hK
    | false =>
      refine s_work_adds (x := { x with rd := [⟨f.stripe, f.lock.version⟩], v := vwK c c f.word }) (n := 1) h1 h2 (by show x.inn.isCom = false; rw [hx]) (by simp) ⟨w1, w2⟩ hr rfl ?_
      repeat' (first | (with_reducible refine G.joini0 ?_) | (with_reducible refine G.joini1 ?_) | (with_reducible refine G.drew ?_) | (simp (maxSteps := 2000000) only [↓RG, RP, RB, BEq.rfl, Int.reduceEq, Int.reduceLT, Int.reduceLE, Nat.reduceEqDiff]))
      exact hK

theorem s_attempt_ended (h1 : 6 ≤ c) (h2 : c ≤ 15) (ho : ToldOk c rdo x) (h0 : x.inn.fin ≠ 0) (h5 : x.inn.fin ≠ 5) [i : SelOb L AttR b x C] (hK : G w0 (C (ob AttR b (attEnded c rdo x))) (K (.tuple #[]))) : G w0 L (CP Tryz.prog Fn.attempt_Attempt_ended [ptr b 0] K) := by
  refine i.use (fun M hK => ?_) hK
  refine C_attempt_Attempt_ended ?_
  unfold S_attempt_Attempt_ended
  cases hx : x.inn with
  | none => have := ho.ok; rw [hx] at this; exact this.elim
  | fetch f =>
    obtain ⟨s3, hr, hv, hd, hf, hw⟩ := ho.fetch f hx
    rw [hx] at h0 h5
    have h0 : f.pat.fin ≠ 0 := h0
    have h5 : f.pat.fin ≠ 5 := h5
    simp only [attEnded, hx] at hK
    rw [← hx] at hK
    rw [AttR_open]
    intro iv vf ve vc pr pv pq
    repeat' (first | (with_reducible refine G.joini0 ?_) | (with_reducible refine G.joini1 ?_) | (with_reducible refine G.drew ?_) | (simp (maxSteps := 2000000) only [↓RG, RP, RB, BEq.rfl, Int.reduceEq, Int.reduceLT, Int.reduceLE, Nat.reduceEqDiff, eq_true s3]))
    refine AttR_close b x iv vf ve vc pr pv pq ?_
    refine s_attempt_fetched (x := x) (f := f) h1 h2 hx hr hv hd (by omega) hw ?_
    repeat' (first | (with_reducible refine G.joini0 ?_) | (with_reducible refine G.joini1 ?_) | (with_reducible refine G.drew ?_) | (simp (maxSteps := 2000000) only [↓RG, RP, RB, BEq.rfl, Int.reduceEq, Int.reduceLT, Int.reduceLE, Nat.reduceEqDiff]))
    exact hK
  | ext e =>
    obtain ⟨s4, hn, hf⟩ := ho.ext e hx
    rw [hx] at h0 h5
    have h0 : e.pat.fin ≠ 0 := h0
    have h5 : e.pat.fin ≠ 5 := h5
    have hf2 : e.pat.fin = 2 := by omega
    simp only [attEnded, hx] at hK
    rw [AttR_open]
    intro iv vf ve vc pr pv pq
    refine G.take1 InnR (iv, vf, ve, vc) ?_
    rw [hx, Inn_ext]
    rintro p ⟨e1, e2, e3⟩
    subst e1 e2 e3
    have n3 : x.state ≠ 3 := by omega
    repeat' (first | (with_reducible refine G.joini0 ?_) | (with_reducible refine G.joini1 ?_) | (with_reducible refine G.drew ?_) | (simp (maxSteps := 2000000) only [↓RG, RP, RB, BEq.rfl, Int.reduceEq, Int.reduceLT, Int.reduceLE, Nat.reduceEqDiff, n3, eq_true s4]))
    refine s_extend_Extend_Stamp (x := e) ?_
    rw [if_pos hf2]
    repeat' (first | (with_reducible refine G.joini0 ?_) | (with_reducible refine G.joini1 ?_) | (with_reducible refine G.drew ?_) | (simp (maxSteps := 2000000) only [↓RG, RP, RB, BEq.rfl, Int.reduceEq, Int.reduceLT, Int.reduceLE, Nat.reduceEqDiff]))
    refine s_view_Need (s := x.v) ?_
    rw [hn]
    refine Att_ext (p := p) (f := e) b { x with stamp := e.stamp } vf pr pv pq hx ?_
    refine s_attempt_ask (x := { x with stamp := e.stamp }) (c := c) (by show x.inn.isCom = false; rw [hx]) ?_
    repeat' (first | (with_reducible refine G.joini0 ?_) | (with_reducible refine G.joini1 ?_) | (with_reducible refine G.drew ?_) | (simp (maxSteps := 2000000) only [↓RG, RP, RB, BEq.rfl, Int.reduceEq, Int.reduceLT, Int.reduceLE, Nat.reduceEqDiff]))
    exact hK
  | com m =>
    have s6 := ho.com m hx
    simp only [attEnded, hx] at hK
    rw [AttR_open]
    intro iv vf ve vc pr pv pq
    refine G.take1 InnR (iv, vf, ve, vc) ?_
    rw [hx, Inn_com]
    rintro p ⟨e1, e3⟩
    subst e1 e3
    have n3 : x.state ≠ 3 := by omega
    have n4 : x.state ≠ 4 := by omega
    have n5 : x.state ≠ 5 := by omega
    repeat' (first | (with_reducible refine G.joini0 ?_) | (with_reducible refine G.joini1 ?_) | (with_reducible refine G.drew ?_) | (simp (maxSteps := 2000000) only [↓RG, RP, RB, BEq.rfl, Int.reduceEq, Int.reduceLT, Int.reduceLE, Nat.reduceEqDiff, n3, n4, n5, eq_true s6]))
    refine s_commit_Commit_End (x := m) ?_
    repeat' (first | (with_reducible refine G.joini0 ?_) | (with_reducible refine G.joini1 ?_) | (with_reducible refine G.drew ?_) | (simp (maxSteps := 2000000) only [↓RG, RP, RB, BEq.rfl, Int.reduceEq, Int.reduceLT, Int.reduceLE, Nat.reduceEqDiff]))
    refine s_commit_Commit_Err (x := m) ?_
    repeat' (first | (with_reducible refine G.joini0 ?_) | (with_reducible refine G.joini1 ?_) | (with_reducible refine G.drew ?_) | (simp (maxSteps := 2000000) only [↓RG, RP, RB, BEq.rfl, Int.reduceEq, Int.reduceLT, Int.reduceLE, Nat.reduceEqDiff]))
    refine Att_com (p := p) (f := m) b x vf ve pr pv pq hx ?_
    refine s_attempt_out (x := x) ?_
    repeat' (first | (with_reducible refine G.joini0 ?_) | (with_reducible refine G.joini1 ?_) | (with_reducible refine G.drew ?_) | (simp (maxSteps := 2000000) only [↓RG, RP, RB, BEq.rfl, Int.reduceEq, Int.reduceLT, Int.reduceLE, Nat.reduceEqDiff]))
    exact hK

theorem s_attempt_mark (hK : G w0 (ob AttR b (attMark x) :: M) (K (.tuple #[]))) : G w0 (ob AttR b x :: M) (CP Tryz.prog Fn.attempt_Attempt_Writing [ptr b 0] (fun x6 => condP x6 (nilW (ptr b 0) (fun x7 => addW 18 x7 (fun x8 => load1W x8 (fun x9 => CP Tryz.prog Fn.commit_Commit_Stamp [x9] (fun x10 => nilW (ptr b 0) (fun x11 => addW 21 x11 (fun x12 => storeW 1 x12 x10 (fun _ => K (.tuple #[]))))))))) (K (.tuple #[])))) := by
  refine s_attempt_Writing (x := x) ?_
  unfold attMark at hK
  cases hw : x.wr
  · rw [if_neg (by rw [hw]; decide)] at hK
    try simp (maxSteps := 2000000) only [↓RG, RP, RB, BEq.rfl, Int.reduceEq, Int.reduceLT, Int.reduceLE, Nat.reduceEqDiff]
    exact hK
  · rw [if_pos hw] at hK
    have hi : x.inn.wr = true := by
      unfold AttS.wr at hw
      simp only [Bool.and_eq_true] at hw
      exact hw.2
    cases hx : x.inn with
    | none => rw [hx] at hi; cases hi
    | fetch f => rw [hx] at hi; cases hi
    | ext f => rw [hx] at hi; cases hi
    | com m =>
      simp only [hx] at hK
      rw [AttR_open]
      intro iv vf ve vc pr pv pq
      refine G.take1 InnR (iv, vf, ve, vc) ?_
      rw [hx, Inn_com]
      rintro p ⟨e1, e3⟩
      subst e1 e3
      try simp (maxSteps := 2000000) only [↓RG, RP, RB, BEq.rfl, Int.reduceEq, Int.reduceLT, Int.reduceLE, Nat.reduceEqDiff]
      refine s_commit_Commit_Stamp (x := m) ?_
      try simp (maxSteps := 2000000) only [↓RG, RP, RB, BEq.rfl, Int.reduceEq, Int.reduceLT, Int.reduceLE, Nat.reduceEqDiff]
      refine Att_com (p := p) (f := m) b { x with stamp := Inn.stamp (.com m) } vf ve pr pv pq hx ?_
      have e : ({ x with stamp := Inn.stamp (.com m) } : AttS) = { me := x.me, s := x.s, run := x.run, v := x.v, rd := x.rd, state := x.state, inn := .com m, begun := x.begun, beg := x.beg, stamp := Inn.stamp (.com m), fin := x.fin, by_ := x.by_, err := x.err } := by rw [hx]
      rw [e]
      exact hK

theorem s_attempt_told (h1 : 6 ≤ c) (h2 : c ≤ 15) (ho : ToldOk c rdo x) [i : SelOb L AttR b x C] (hK : G w0 (C (ob AttR b (attTold c rdo x))) (K (.tuple #[]))) : G w0 L (CP Tryz.prog Fn.attempt_Attempt_told [ptr b 0] K) := by
  refine i.use (fun M hK => ?_) hK
  refine C_attempt_Attempt_told ?_
  unfold S_attempt_Attempt_told
  rw [AttR_open]
  intro iv vf ve vc pr pv pq
  repeat' (first | (with_reducible refine G.joini0 ?_) | (with_reducible refine G.joini1 ?_) | (with_reducible refine G.drew ?_) | (simp (maxSteps := 2000000) only [↓RG, RP, RB, BEq.rfl, Int.reduceEq, Int.reduceLT, Int.reduceLE, Nat.reduceEqDiff]))
  refine G.take1 InnR (iv, vf, ve, vc) ?_
  refine inv_End ho.ok ?_
  unfold attTold at hK
  by_cases h0 : x.inn.fin = 0
  · rw [if_pos h0] at hK
    repeat' (first | (with_reducible refine G.joini0 ?_) | (with_reducible refine G.joini1 ?_) | (with_reducible refine G.drew ?_) | (simp (maxSteps := 2000000) only [↓RG, RP, RB, BEq.rfl, Int.reduceEq, Int.reduceLT, Int.reduceLE, Nat.reduceEqDiff, h0]))
    refine AttR_close b x iv vf ve vc pr pv pq ?_
    refine s_attempt_mark (x := x) ?_
    exact hK
  · rw [if_neg h0] at hK
    by_cases h5 : x.inn.fin = 5
    · rw [if_pos h5] at hK
      repeat' (first | (with_reducible refine G.joini0 ?_) | (with_reducible refine G.joini1 ?_) | (with_reducible refine G.drew ?_) | (simp (maxSteps := 2000000) only [↓RG, RP, RB, BEq.rfl, Int.reduceEq, Int.reduceLT, Int.reduceLE, Nat.reduceEqDiff, h0, h5]))
      refine inv_By ho.ok ?_
      repeat' (first | (with_reducible refine G.joini0 ?_) | (with_reducible refine G.joini1 ?_) | (with_reducible refine G.drew ?_) | (simp (maxSteps := 2000000) only [↓RG, RP, RB, BEq.rfl, Int.reduceEq, Int.reduceLT, Int.reduceLE, Nat.reduceEqDiff]))
      refine AttR_close b x iv vf ve vc pr pv pq ?_
      refine s_attempt_out (x := x) ?_
      repeat' (first | (with_reducible refine G.joini0 ?_) | (with_reducible refine G.joini1 ?_) | (with_reducible refine G.drew ?_) | (simp (maxSteps := 2000000) only [↓RG, RP, RB, BEq.rfl, Int.reduceEq, Int.reduceLT, Int.reduceLE, Nat.reduceEqDiff]))
      refine s_attempt_mark (x := attOut x 5 0 x.inn.by_) ?_
      exact hK
    · rw [if_neg h5] at hK
      repeat' (first | (with_reducible refine G.joini0 ?_) | (with_reducible refine G.joini1 ?_) | (with_reducible refine G.drew ?_) | (simp (maxSteps := 2000000) only [↓RG, RP, RB, BEq.rfl, Int.reduceEq, Int.reduceLT, Int.reduceLE, Nat.reduceEqDiff, h0, h5]))
      refine AttR_close b x iv vf ve vc pr pv pq ?_
      refine s_attempt_ended (x := x) h1 h2 ho h0 h5 ?_
      repeat' (first | (with_reducible refine G.joini0 ?_) | (with_reducible refine G.joini1 ?_) | (with_reducible refine G.drew ?_) | (simp (maxSteps := 2000000) only [↓RG, RP, RB, BEq.rfl, Int.reduceEq, Int.reduceLT, Int.reduceLE, Nat.reduceEqDiff]))
      refine s_attempt_mark (x := attEnded c rdo x) ?_
      exact hK

/-- what is so when it hears an answer -/
structure TellOk (c : Int) (rdo : Bool) (x : AttS) (a : TAns) : Prop where
  err : a.err = 0
  work : x.state = 2 → x.inn.isCom = false ∧ x.run = intStart (progOf c rdo) 0 ∧ x.v = vwN 0
  inn : x.state ≠ 0 → x.state ≠ 1 → x.state ≠ 2 → x.state ≠ 7 → x.state ≠ 8 → x.inn.ok ∧ ToldOk c rdo { x with inn := x.inn.tell a }

theorem s_attempt_Tell {a : TAns} (h1 : 6 ≤ c) (h2 : c ≤ 15) (ho : TellOk c rdo x a) [i : SelOb L AttR b x C] (hK : G w0 (C (ob AttR b (attTell c rdo x a))) (K (.tuple #[]))) : G w0 L (CP Tryz.prog Fn.attempt_Attempt_Tell [ptr b 0, .agg (TAns.cells a).toArray] K) := by
  refine i.use (fun M hK => ?_) hK
  refine C_attempt_Attempt_Tell ?_
  unfold S_attempt_Attempt_Tell
  refine G.box fun q => ?_
  rw [G_swap, AttR_open]
  intro iv vf ve vc pr pv pq
  unfold attTell at hK
  have he := ho.err
  by_cases s8 : x.state = 8
  · rw [if_pos s8, AttR_open] at hK
    repeat' (first | (with_reducible refine G.joini0 ?_) | (with_reducible refine G.joini1 ?_) | (with_reducible refine G.drew ?_) | (simp (maxSteps := 2000000) only [↓RG, RP, RB, BEq.rfl, Int.reduceEq, Int.reduceLT, Int.reduceLE, Nat.reduceEqDiff, eq_true s8]))
    exact (hK iv vf ve vc pr pv pq).sub
  rw [if_neg s8] at hK
  by_cases s0 : x.state = 0
  · rw [if_pos s0, AttR_open] at hK
    repeat' (first | (with_reducible refine G.joini0 ?_) | (with_reducible refine G.joini1 ?_) | (with_reducible refine G.drew ?_) | (simp (maxSteps := 2000000) only [↓RG, RP, RB, BEq.rfl, Int.reduceEq, Int.reduceLT, Int.reduceLE, Nat.reduceEqDiff, s8, eq_true s0, eq_true he]))
    exact (hK iv vf ve vc pr pv pq).sub
  rw [if_neg s0] at hK
  by_cases s1 : x.state = 1
  · rw [if_pos s1, AttR_open] at hK
    repeat' (first | (with_reducible refine G.joini0 ?_) | (with_reducible refine G.joini1 ?_) | (with_reducible refine G.drew ?_) | (simp (maxSteps := 2000000) only [↓RG, RP, RB, BEq.rfl, Int.reduceEq, Int.reduceLT, Int.reduceLE, Nat.reduceEqDiff, s8, s0, eq_true s1, eq_true he]))
    exact (hK iv vf ve vc pr pv pq).sub
  rw [if_neg s1] at hK
  by_cases s2 : x.state = 2
  · rw [if_pos s2] at hK
    obtain ⟨g1, g2, g3⟩ := ho.work s2
    repeat' (first | (with_reducible refine G.joini0 ?_) | (with_reducible refine G.joini1 ?_) | (with_reducible refine G.drew ?_) | (simp (maxSteps := 2000000) only [↓RG, RP, RB, BEq.rfl, Int.reduceEq, Int.reduceLT, Int.reduceLE, Nat.reduceEqDiff, s8, s0, s1, eq_true s2, eq_true he]))
    refine AttR_close b x iv vf ve vc pr pv pq ?_
    refine s_work_needs (x := x) (c := c) (rdo := rdo) (n := 0) (m := 0) h1 h2 g1 g2 g3 ?_
    repeat' (first | (with_reducible refine G.joini0 ?_) | (with_reducible refine G.joini1 ?_) | (with_reducible refine G.drew ?_) | (simp (maxSteps := 2000000) only [↓RG, RP, RB, BEq.rfl, Int.reduceEq, Int.reduceLT, Int.reduceLE, Nat.reduceEqDiff]))
    exact hK.sub
  rw [if_neg s2] at hK
  by_cases s7 : x.state = 7
  · rw [if_pos s7, AttR_open] at hK
    repeat' (first | (with_reducible refine G.joini0 ?_) | (with_reducible refine G.joini1 ?_) | (with_reducible refine G.drew ?_) | (simp (maxSteps := 2000000) only [↓RG, RP, RB, BEq.rfl, Int.reduceEq, Int.reduceLT, Int.reduceLE, Nat.reduceEqDiff, s8, s0, s1, s2, eq_true s7, eq_true he]))
    exact (hK iv vf ve vc pr pv pq).sub
  rw [if_neg s7] at hK
  obtain ⟨g1, g2⟩ := ho.inn s0 s1 s2 s7 s8
  repeat' (first | (with_reducible refine G.joini0 ?_) | (with_reducible refine G.joini1 ?_) | (with_reducible refine G.drew ?_) | (simp (maxSteps := 2000000) only [↓RG, RP, RB, BEq.rfl, Int.reduceEq, Int.reduceLT, Int.reduceLE, Nat.reduceEqDiff, s8, s0, s1, s2, s7, eq_true he]))
  refine G.take1 InnR (iv, vf, ve, vc) ?_
  refine inv_Tell g1 ?_
  repeat' (first | (with_reducible refine G.joini0 ?_) | (with_reducible refine G.joini1 ?_) | (with_reducible refine G.drew ?_) | (simp (maxSteps := 2000000) only [↓RG, RP, RB, BEq.rfl, Int.reduceEq, Int.reduceLT, Int.reduceLE, Nat.reduceEqDiff]))
  refine AttR_close b { x with inn := x.inn.tell a } iv vf ve vc pr pv pq ?_
  refine s_attempt_told (x := { x with inn := x.inn.tell a }) h1 h2 g2 ?_
  repeat' (first | (with_reducible refine G.joini0 ?_) | (with_reducible refine G.joini1 ?_) | (with_reducible refine G.drew ?_) | (simp (maxSteps := 2000000) only [↓RG, RP, RB, BEq.rfl, Int.reduceEq, Int.reduceLT, Int.reduceLE, Nat.reduceEqDiff]))
  exact hK.sub

theorem s_attempt_Next (ho : x.state ≠ 0 → x.state ≠ 1 → x.state ≠ 2 → x.state ≠ 7 → x.state ≠ 8 → x.inn.ok) [i : SelOb L AttR b x C] (hK : G w0 L (K (.tuple #[.agg (TOp.cells (attNext x).1).toArray, .bool (attNext x).2]))) : G w0 L (CP Tryz.prog Fn.attempt_Attempt_Next [ptr b 0] K) := by
  refine i.ro (fun M hK => ?_) hK
  refine C_attempt_Attempt_Next ?_
  unfold S_attempt_Attempt_Next
  refine G.new fun q => ?_
  rw [G_swap]
  rw [AttR_open] at *
  intro iv vf ve vc pr pv pq
  have hK := hK iv vf ve vc pr pv pq
  unfold attNext at hK
  by_cases s0 : x.state = 0
  · rw [if_pos s0] at hK
    repeat' (first | (with_reducible refine G.joini0 ?_) | (with_reducible refine G.joini1 ?_) | (with_reducible refine G.drew ?_) | (simp (maxSteps := 2000000) only [↓RG, RP, RB, BEq.rfl, Int.reduceEq, Int.reduceLT, Int.reduceLE, Nat.reduceEqDiff, eq_true s0]))
    exact hK.sub
  rw [if_neg s0] at hK
  by_cases s1 : x.state = 1
  · rw [if_pos s1] at hK
    repeat' (first | (with_reducible refine G.joini0 ?_) | (with_reducible refine G.joini1 ?_) | (with_reducible refine G.drew ?_) | (simp (maxSteps := 2000000) only [↓RG, RP, RB, BEq.rfl, Int.reduceEq, Int.reduceLT, Int.reduceLE, Nat.reduceEqDiff, s0, eq_true s1]))
    exact hK.sub
  rw [if_neg s1] at hK
  by_cases s2 : x.state = 2
  · rw [if_pos s2] at hK
    repeat' (first | (with_reducible refine G.joini0 ?_) | (with_reducible refine G.joini1 ?_) | (with_reducible refine G.drew ?_) | (simp (maxSteps := 2000000) only [↓RG, RP, RB, BEq.rfl, Int.reduceEq, Int.reduceLT, Int.reduceLE, Nat.reduceEqDiff, s0, s1, eq_true s2]))
    exact hK.sub
  rw [if_neg s2] at hK
  by_cases s7 : x.state = 7
  · rw [if_pos s7] at hK
    repeat' (first | (with_reducible refine G.joini0 ?_) | (with_reducible refine G.joini1 ?_) | (with_reducible refine G.drew ?_) | (simp (maxSteps := 2000000) only [↓RG, RP, RB, BEq.rfl, Int.reduceEq, Int.reduceLT, Int.reduceLE, Nat.reduceEqDiff, s0, s1, s2, eq_true s7]))
    exact hK.sub
  rw [if_neg s7] at hK
  by_cases s8 : x.state = 8
  · rw [if_pos s8] at hK
    repeat' (first | (with_reducible refine G.joini0 ?_) | (with_reducible refine G.joini1 ?_) | (with_reducible refine G.drew ?_) | (simp (maxSteps := 2000000) only [↓RG, RP, RB, BEq.rfl, Int.reduceEq, Int.reduceLT, Int.reduceLE, Nat.reduceEqDiff, s0, s1, s2, s7, eq_true s8]))
    exact hK.sub
  rw [if_neg s8] at hK
  repeat' (first | (with_reducible refine G.joini0 ?_) | (with_reducible refine G.joini1 ?_) | (with_reducible refine G.drew ?_) | (simp (maxSteps := 2000000) only [↓RG, RP, RB, BEq.rfl, Int.reduceEq, Int.reduceLT, Int.reduceLE, Nat.reduceEqDiff, s0, s1, s2, s7, s8]))
  refine G.take1 InnR (iv, vf, ve, vc) ?_
  refine inv_Next (ho s0 s1 s2 s7 s8) ?_
  repeat' (first | (with_reducible refine G.joini0 ?_) | (with_reducible refine G.joini1 ?_) | (with_reducible refine G.drew ?_) | (simp (maxSteps := 2000000) only [↓RG, RP, RB, BEq.rfl, Int.reduceEq, Int.reduceLT, Int.reduceLE, Nat.reduceEqDiff]))
  exact hK.sub

end
end Go.Proofs.YtoealglbimbbmaaGreatDoor.S
