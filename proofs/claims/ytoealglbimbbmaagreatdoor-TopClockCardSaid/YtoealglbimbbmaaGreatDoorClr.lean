/-
  TOPCLOCK'S PLAIN LAW: the machine's parts stand for the plain states.
-/
import Derived.Test.YtoealglbimbbmaaGreatDoorClk
namespace Go.Proofs.YtoealglbimbbmaaGreatDoor.S
open Go Go.Proofs
set_option linter.unusedVariables false
set_option linter.unusedSimpArgs false
/-! ## The machine's parts stand for TopClock's plain states -/
abbrev setOf (P : Pr) : TSet := ⟨40, 4, 1, P.n, P.start, P.sp, 9, 20⟩
abbrev Pr.s (P : Pr) : Int := stripeOf P.c 4 1
abbrev jobsOf (P : Pr) (i : Nat) : List (List TIns) := List.replicate (P.k i) (addsP P.c) ++ (if P.rd then [readsP P.c] else [])
abbrev rdoOf (P : Pr) (i job : Nat) : Bool := decide (job = P.k i)

theorem heldSet_of {P : Pr} (hP : PrOk P) : heldSet (setOf P) = setOf P := by
  have h1 := hP.sp
  have h2 := hP.n
  have h3 := hP.start
  have hTM : TM = 4611686018427387903 := rfl
  unfold heldSet heldShape
  simp only
  rw [if_neg (by omega)]
  have e1 : held (P.n : Int) 1 4 = P.n := by unfold held; rw [if_neg (by omega), if_neg (by omega)]
  have e2 : held P.sp 0 4 = P.sp := by unfold held; rw [if_neg (by omega), if_neg (by omega)]
  rw [e1, e2]
  rfl

abbrev at0 (P : Pr) (me : Nat) (rdo : Bool) : AttS := ⟨me, setOf P, intStart (progOf P.c rdo) 0, vwN 0, [], 0, .none, false, 0, 0, 0, -1, 0⟩
abbrev fAt (P : Pr) (me : Nat) (rdo : Bool) (b st : Int) (state : Int) (i : Inn) : AttS := ⟨me, setOf P, intStart (progOf P.c rdo) 1, vwN P.c, [], state, i, true, b, st, 0, -1, 0⟩
abbrev cAt (P : Pr) (me : Nat) (w v b st : Int) (m : ComS) : AttS := ⟨me, setOf P, intAdded P.c (w + 1), vwW P.c P.c w (w + 1), [⟨P.s, v⟩], 6, .com m, true, b, st, 0, -1, 0⟩
structure GoR (me : Nat) (x : AttS) (e er b it : Int) : Prop where
  who : x.me = me
  st : x.state = 7
  fin : x.fin = e
  err : x.err = er
  by_ : x.by_ = b
  known : x.v.k.length ≤ 1000
  cells : x.v.l.cells.length ≤ 1000
  frees : x.v.l.frees = []
  items : e = 2 → x.run.items = [it]
  rd : x.rd.length ≤ 1000

def RA (P : Pr) (me : Nat) (rdo : Bool) (x : AttS) : Ph → Prop
  | .coming => x = at0 P me rdo
  | .asking => x = { at0 P me rdo with state := 1 }
  | .marking st => x = { at0 P me rdo with begun := true, beg := st, stamp := st, state := 2 }
  | .f0 st q => ∃ b lk w, x = fAt P me rdo b st 3 (.fetch ⟨⟨me, q, 0, -1, 0⟩, P.c, P.s, st, 0, lk, w⟩)
  | .f1 st q v => ∃ b w, x = fAt P me rdo b st 3 (.fetch ⟨⟨me, q, 0, -1, 0⟩, P.c, P.s, st, 1, ⟨v, false, 0⟩, w⟩)
  | .f2 st q v w => ∃ b, x = fAt P me rdo b st 3 (.fetch ⟨⟨me, q, 0, -1, 0⟩, P.c, P.s, st, 2, ⟨v, false, 0⟩, w⟩)
  | .ext st => ∃ b, x = fAt P me rdo b st 4 (.ext ⟨⟨me, P.sp, 0, -1, 0⟩, [], false, 0, 0⟩)
  | .c0 st v w q => ∃ b lk now, x = cAt P me w v b st ⟨⟨me, q, 0, -1, 0⟩, me, st, [⟨P.s, v⟩], [⟨P.c, w + 1⟩], [P.s], [], 0, 0, lk, now, false, 0, 0, 0⟩
  | .c1 st v w q V => ∃ b now, x = cAt P me w v b st ⟨⟨me, q, 0, -1, 0⟩, me, st, [⟨P.s, v⟩], [⟨P.c, w + 1⟩], [P.s], [], 1, 0, ⟨V, false, 0⟩, now, false, 0, 0, 0⟩
  | .c2 st v w V => ∃ b q lk now, x = cAt P me w v b st ⟨⟨me, q, 0, -1, 0⟩, me, st, [⟨P.s, v⟩], [⟨P.c, w + 1⟩], [P.s], [⟨V, false, 0⟩], 2, 0, lk, now, false, 0, 0, 0⟩
  | .c3 st v w V now => ∃ b q lk, x = cAt P me w v b st ⟨⟨me, q, 0, -1, 0⟩, me, st, [⟨P.s, v⟩], [⟨P.c, w + 1⟩], [P.s], [⟨V, false, 0⟩], 3, 0, lk, now, false, 0, 0, 0⟩
  | .c5 w V now => ∃ st v b q lk sm, x = cAt P me w v b sm ⟨⟨me, q, 0, -1, 0⟩, me, st, [⟨P.s, v⟩], [⟨P.c, w + 1⟩], [P.s], [⟨V, false, 0⟩], 5, 0, lk, now, true, 0, 0, 0⟩
  | .c6 w V now => ∃ st v b q lk sm, x = cAt P me w v b sm ⟨⟨me, q, 0, -1, 0⟩, me, st, [⟨P.s, v⟩], [⟨P.c, w + 1⟩], [P.s], [⟨V, false, 0⟩], 6, 0, lk, now, true, 0, 0, 0⟩
  | .c7 V e er => ∃ w st v b q lk now, x = cAt P me w v b st ⟨⟨me, q, 0, -1, 0⟩, me, st, [⟨P.s, v⟩], [⟨P.c, w + 1⟩], [P.s], [⟨V, false, 0⟩], 7, 0, lk, now, false, e, -1, er⟩
  | .go e er b it => GoR me x e er b it
  | _ => False

/-- a thread -/
def RPh (P : Pr) (me job : Nat) (x : ThrS) : Ph → Prop
  | .yld b since y => x.state = 2 ∧ x.by_ = b ∧ x.yld = y ∧ (y = true → x.since = since)
  | .pause p => x.state = 3 ∧ x.pauses = p
  | .fin => x.state = 6
  | ph => x.state = 1 ∧ ∃ a, x.now = some a ∧ RA P me (rdoOf P me job) a ph
structure RT (P : Pr) (i : Nat) (x : ThrS) (a : AT) : Prop where
  me : x.me = i
  s : x.s = setOf P
  jobs : x.jobs = jobsOf P i
  job : x.job = a.job
  res : x.res.map (fun r => (r.kind, r.err, r.slate)) = a.res.map (fun r => (r.1, r.2.1, if r.1 = 2 then textV [r.2.2] else ⟨#[]⟩))
  rd : ∀ t, x.now = some t → t.rd.length ≤ 1000
  ph : RPh P i a.job x a.ph
/-- the memory -/
structure RM (P : Pr) (M : MemS) (m : AM) : Prop where
  wl : M.w.length = 40
  w : M.w.getD P.c.toNat 0 = m.W
  ll : M.l.length = 4
  l : M.l.getD P.s.toNat zeroLock = m.lk
  t : M.n = m.T
  sl : M.s.length = P.n
  s : ∀ i, i < P.n → M.s.getD i 0 = m.e i

theorem RM.ext {P : Pr} {M M' : MemS} {m : AM} (h : RM P M m) (h1 : M'.w = M.w) (h2 : M'.l = M.l) (h3 : M'.n = M.n) (h4 : M'.s = M.s) : RM P M' m :=
  ⟨by rw [h1]; exact h.wl, by rw [h1]; exact h.w, by rw [h2]; exact h.ll, by rw [h2]; exact h.l, by rw [h3]; exact h.t, by rw [h4]; exact h.sl, by rw [h4]; exact h.s⟩
theorem memDo_rm {P : Pr} {M : MemS} {m : AM} {o : TOp} (h : RM P (memStep M o).1 m) : RM P (memDo M o).1 m := by
  unfold memDo; split
  · exact h.ext rfl rfl rfl rfl
  · exact h
theorem memDo_an {M : MemS} {o : TOp} : (memDo M o).2 = (memStep M o).2 := by unfold memDo; split <;> rfl

theorem s_lt {P : Pr} (hP : PrOk P) : inLen P.s 4 = true ∧ P.s.toNat < 4 := by
  have h := hP.c
  have : P.c = 6 ∨ P.c = 7 ∨ P.c = 8 ∨ P.c = 9 ∨ P.c = 10 ∨ P.c = 11 ∨ P.c = 12 ∨ P.c = 13 ∨ P.c = 14 ∨ P.c = 15 := by omega
  unfold Pr.s
  rcases this with e | e | e | e | e | e | e | e | e | e <;> rw [e] <;> decide

section
variable {P : Pr} {M : MemS} {m : AM}
theorem mem_load {me : Nat} {st q v : Int} (hP : PrOk P) (h : RM P M m) : memStep M ⟨1, P.c, 0, 0, zeroLock, zeroLock⟩ = (M, ⟨m.W, zeroLock, false, 0⟩) := by
  have hc := hP.c
  have e : inHeap P.c M.w = true := by unfold inHeap; rw [h.wl]; simp; omega
  unfold memStep
  simp only [if_true, e, h.w]
theorem mem_lock (hP : PrOk P) (h : RM P M m) : memStep M ⟨3, P.s, 0, 0, zeroLock, zeroLock⟩ = (M, ⟨0, m.lk, false, 0⟩) := by
  have e := (s_lt hP).1
  unfold memStep loadRes
  simp only [h.ll, e, if_true, h.l]
  rfl
theorem mem_clock (h : RM P M m) : memStep M ⟨6, 0, 0, 0, zeroLock, zeroLock⟩ = (M, ⟨m.T, zeroLock, false, 0⟩) := by
  unfold memStep
  simp only [h.t]
  rfl
theorem mem_epoch {i : Nat} (hi : i < P.n) (h : RM P M m) : memStep M ⟨8, i, 0, 0, zeroLock, zeroLock⟩ = (M, ⟨m.e i, zeroLock, false, 0⟩) := by
  have e : inLen (i : Int) M.s.length = true := inLen_nat (by rw [h.sl]; exact hi)
  have := h.s i hi
  unfold memStep
  simp only [e, if_true, Int.toNat_natCast, this]
  rfl
theorem mem_mark {i : Nat} {x : Int} (hP : PrOk P) (hi : i < P.n) (h : RM P M m) : (memStep M ⟨9, i, 0, x, zeroLock, zeroLock⟩).2 = zeroAns ∧ RM P (memStep M ⟨9, i, 0, x, zeroLock, zeroLock⟩).1 (m.setE i x) := by
  have e : inLen (i : Int) M.s.length = true := inLen_nat (by rw [h.sl]; exact hi)
  have hn := hP.n
  have e1 := (setE_lk (m := m) (me := i) (x := x))
  have es : memStep M ⟨9, i, 0, x, zeroLock, zeroLock⟩ = ({ M with s := M.s.set i x }, zeroAns) := by
    unfold memStep
    simp only [e, if_true, Int.toNat_natCast]
    rfl
  rw [es]
  refine ⟨rfl, ⟨h.wl, by rw [e1.2.1]; exact h.w, h.ll, by rw [e1.1]; exact h.l, by rw [e1.2.2]; exact h.t, by simp [h.sl], fun j hj => ?_⟩⟩
  have hl := h.sl
  have hs := h.s j hj
  simp only [List.getD_eq_getElem?_getD] at hs ⊢
  by_cases c : i = j
  · subst c
    rw [List.getElem?_set_self (by omega)]
    unfold AM.setE AM.e
    split <;> simp
  · rw [List.getElem?_set_ne c, hs]
    unfold AM.setE AM.e
    split <;> split <;> simp_all
    omega
theorem mem_store {x : Int} (hP : PrOk P) (h : RM P M m) : (memStep M ⟨2, P.c, 0, x, zeroLock, zeroLock⟩).2 = zeroAns ∧ RM P (memStep M ⟨2, P.c, 0, x, zeroLock, zeroLock⟩).1 { m with W := x } := by
  have hc := hP.c
  have e : inHeap P.c M.w = true := by unfold inHeap; rw [h.wl]; simp; omega
  have es : memStep M ⟨2, P.c, 0, x, zeroLock, zeroLock⟩ = ({ M with w := M.w.set P.c.toNat x }, zeroAns) := by
    unfold memStep
    simp only [e, if_true]
    rfl
  rw [es]
  refine ⟨rfl, ⟨by simp [h.wl], ?_, h.ll, h.l, h.t, h.sl, h.s⟩⟩
  simp only [List.getD_eq_getElem?_getD]
  rw [List.getElem?_set_self (by rw [h.wl]; omega)]
  rfl
theorem mem_setLock {l : TLock} (hP : PrOk P) (h : RM P M m) (hl : isLock l = true) : (memStep M ⟨5, P.s, 0, 0, zeroLock, l⟩).2 = zeroAns ∧ RM P (memStep M ⟨5, P.s, 0, 0, zeroLock, l⟩).1 { m with lk := l } := by
  have e := s_lt hP
  have em : mayErr M.l P.s l = 0 := by unfold mayErr; rw [h.ll, e.1, hl]; rfl
  have es : memStep M ⟨5, P.s, 0, 0, zeroLock, l⟩ = ({ M with l := M.l.set P.s.toNat l }, zeroAns) := by
    unfold memStep storeRes
    simp only [em, if_true]
    rfl
  rw [es]
  refine ⟨rfl, ⟨h.wl, h.w, by simp [h.ll], ?_, h.t, h.sl, h.s⟩⟩
  simp only [List.getD_eq_getElem?_getD]
  rw [List.getElem?_set_self (by rw [h.ll]; exact e.2)]
  rfl
theorem mem_cas {u l : TLock} (hP : PrOk P) (h : RM P M m) (hl : isLock l = true) : (memStep M ⟨4, P.s, 0, 0, u, l⟩).2 = ⟨0, zeroLock, decide (m.lk = u), 0⟩ ∧ RM P (memStep M ⟨4, P.s, 0, 0, u, l⟩).1 (if m.lk = u then { m with lk := l } else m) := by
  have e := s_lt hP
  have em : mayErr M.l P.s l = 0 := by unfold mayErr; rw [h.ll, e.1, hl]; rfl
  by_cases c : m.lk = u
  · have es : memStep M ⟨4, P.s, 0, 0, u, l⟩ = ({ M with l := M.l.set P.s.toNat l }, ⟨0, zeroLock, true, 0⟩) := by
      unfold memStep casRes
      simp only [em, if_true, h.l, c]
      rfl
    rw [es, if_pos c]
    refine ⟨by simp [c], ⟨h.wl, h.w, by simp [h.ll], ?_, h.t, h.sl, h.s⟩⟩
    simp only [List.getD_eq_getElem?_getD]
    rw [List.getElem?_set_self (by rw [h.ll]; exact e.2)]
    rfl
  · have es : memStep M ⟨4, P.s, 0, 0, u, l⟩ = ({ M with l := M.l }, ⟨0, zeroLock, false, 0⟩) := by
      unfold memStep casRes
      simp only [em, if_true, h.l, if_neg c]
      rfl
    rw [es, if_neg c]
    exact ⟨by simp [c], h⟩
theorem mem_raise {now : Int} (h : RM P M m) (h1 : m.T = now) (h2 : now < TM) : (memStep M ⟨7, 0, now, now + 1, zeroLock, zeroLock⟩).2 = ⟨0, zeroLock, true, 0⟩ ∧ RM P (memStep M ⟨7, 0, now, now + 1, zeroLock, zeroLock⟩).1 { m with T := now + 1 } := by
  have es : memStep M ⟨7, 0, now, now + 1, zeroLock, zeroLock⟩ = ({ M with n := now + 1 }, ⟨0, zeroLock, true, 0⟩) := by
    unfold memStep
    have a1 : ¬ now + 1 ≤ now := by omega
    have hTM : TM = 4611686018427387903 := rfl
    have a2 : ¬ (4611686018427387904 : Int) ≤ now + 1 := by omega
    have a3 : M.n = now := by rw [h.t, h1]
    simp only [a1, a2, a3, if_true, if_false]
    rfl
  rw [es]
  exact ⟨rfl, ⟨h.wl, h.w, h.ll, h.l, rfl, h.sl, h.s⟩⟩
end

/-! ### an attempt hears an answer -/
structure AttR' (P : Pr) (me : Nat) (rdo : Bool) (t : AttS) (ans : TAns) (ph' : Ph) : Prop where
  ok : t.state ≠ 0 → t.state ≠ 1 → t.state ≠ 2 → t.state ≠ 7 → t.state ≠ 8 → t.inn.ok
  tell : TellOk P.c rdo t ans
  st : (attTell P.c rdo t ans).state ≠ 8
  ra : RA P me rdo (attTell P.c rdo t ans) ph'
  rd : (attTell P.c rdo t ans).rd.length ≤ 1000

section
variable {P : Pr} {me ot : Nat} {m : AM} {rdo : Bool} {t : AttS} {st q v w V now e er b it : Int} {lk : TLock}

theorem att_coming (h : RA P me rdo t .coming) : attNext t = (⟨9, me, 0, 1, zeroLock, zeroLock⟩, true) ∧ AttR' P me rdo t zeroAns .asking := by
  have h : t = at0 P me rdo := h
  subst h
  exact ⟨rfl, fun g => absurd rfl g, ⟨rfl, fun g => by simp at g, fun g => absurd rfl g⟩, by simp [attTell], rfl, Nat.zero_le _⟩
theorem att_asking {T : Int} (h : RA P me rdo t .asking) : attNext t = (⟨6, 0, 0, 0, zeroLock, zeroLock⟩, true) ∧ AttR' P me rdo t ⟨T, zeroLock, false, 0⟩ (.marking T) := by
  have h : t = { at0 P me rdo with state := 1 } := h
  subst h
  exact ⟨rfl, fun _ g => absurd rfl g, ⟨rfl, fun g => by simp at g, fun _ g => absurd rfl g⟩, by simp [attTell], rfl, Nat.zero_le _⟩
theorem att_marking (hP : PrOk P) (h0 : 0 ≤ st) (h1 : st ≤ TM) (h : RA P me rdo t (.marking st)) : attNext t = (⟨9, me, 0, st + 1, zeroLock, zeroLock⟩, true) ∧ AttR' P me rdo t zeroAns (.f0 st P.sp) := by
  have hTM : TM = 4611686018427387903 := rfl
  have h : t = { at0 P me rdo with begun := true, beg := st, stamp := st, state := 2 } := h
  subst h
  have e : IntKind.wrap .u64 (st + 1) = st + 1 := wu64 (by omega) (by omega)
  have sp := hP.sp
  have e2 : held P.sp 0 4 = P.sp := by unfold held; rw [if_neg (by omega), if_neg (by omega)]
  refine ⟨by unfold attNext; simp only [e]; rfl, fun _ _ g => absurd rfl g, ⟨rfl, fun _ => ⟨rfl, rfl, rfl⟩, fun _ _ g => absurd rfl g⟩, by simp [attTell], ?_, Nat.zero_le _⟩
  exact ⟨st, zeroLock, 0, by simp only [attTell, attNeeds, attAsk, fetchNew, newPat, e2]; rfl⟩

/-- a fetch finds a lock -/
structure Heard (P : Pr) (me : Nat) (rdo : Bool) (x : AttS) (ph : Ph) : Prop where
  st : (attTold P.c rdo x).state ≠ 8
  ra : RA P me rdo (attTold P.c rdo x) ph
  rd : (attTold P.c rdo x).rd.length ≤ 1000
  ok : ToldOk P.c rdo x
theorem told_f {f : FetchS} {bg : Int} (h : f.pat.fin = 0 ∨ f.pat.fin = 5 ∨ f.pat.fin = 6) : ToldOk P.c rdo (fAt P me rdo bg st 3 (.fetch f)) :=
  ⟨trivial, fun g e => (by cases e; exact ⟨rfl, rfl, rfl, rfl, by omega, fun e => by omega⟩), fun g e => (by cases e), fun g e => (by cases e)⟩
theorem heard_f0 {bg fw : Int} {fl : TLock} : Heard P me rdo (fAt P me rdo bg st 3 (.fetch ⟨⟨me, q, 0, -1, 0⟩, P.c, P.s, st, 0, fl, fw⟩)) (.f0 st q) :=
  ⟨by simp [attTold, attMark, AttS.wr], ⟨bg, fl, fw, rfl⟩, Nat.zero_le _, told_f (.inl rfl)⟩
theorem found_ok {fs : Int} {fl : TLock} {fw bg : Int} (hP : PrOk P) (hq : 0 ≤ q) (hq4 : q ≤ 4) (hlk : lk.held = false → lk = ⟨lk.version, false, 0⟩) :
    Heard P me rdo (fAt P me rdo bg st 3 (.fetch (fetchFound ⟨⟨me, q, 0, -1, 0⟩, P.c, P.s, st, fs, fl, fw⟩ lk))) (found me st q lk) := by
  have sp := hP.sp
  have e2 : held P.sp 0 4 = P.sp := by unfold held; rw [if_neg (by omega), if_neg (by omega)]
  have ew : IntKind.wrap .i64 (q - 1) = q - 1 := wi64 (by omega) (by omega)
  have en : newPat me P.sp = ⟨me, P.sp, 0, -1, 0⟩ := by unfold newPat; rw [e2]
  unfold found fetchFound
  by_cases c : lk.held = true
  · simp only [if_pos c]
    unfold waitsF Pat.waits
    by_cases c2 : lk.owner > me
    · simp only [if_pos c2, if_true]
      exact heard_f0
    · simp only [if_neg c2, ew]
      by_cases c3 : 0 ≤ q - 1
      · have c4 : decide (q - 1 ≥ 0) = true := by simpa using c3
        simp only [if_pos c3, c4, if_true]
        exact heard_f0
      · have c4 : decide (q - 1 ≥ 0) = false := by simpa using c3
        simp only [if_neg c3, c4, Bool.false_eq_true, if_false]
        exact ⟨by show (7 : Int) ≠ 8; decide, ⟨rfl, rfl, rfl, rfl, rfl, Nat.zero_le _, Nat.zero_le _, rfl, fun e => by omega, Nat.zero_le _⟩, Nat.zero_le _, told_f (.inr (.inl rfl))⟩
  · simp only [if_neg c]
    by_cases c2 : st < lk.version
    · simp only [if_pos c2, gt_iff_lt]
      exact ⟨by show (4 : Int) ≠ 8; decide, ⟨bg, by show fAt P me rdo bg st 4 (.ext ⟨newPat me P.sp, [], false, 0, 0⟩) = _; rw [en]⟩, Nat.zero_le _, told_f (.inr (.inr rfl))⟩
    · simp only [if_neg c2, gt_iff_lt]
      have hl : lk = ⟨lk.version, false, 0⟩ := hlk (by simpa using c)
      rw [hl]
      exact ⟨by show (3 : Int) ≠ 8; decide, ⟨bg, fw, rfl⟩, Nat.zero_le _, told_f (.inl rfl)⟩

theorem att_f0 (hP : PrOk P) (hq : 0 ≤ q) (hq4 : q ≤ 4) (hlk : lk.held = false → lk = ⟨lk.version, false, 0⟩) (h : RA P me rdo t (.f0 st q)) : attNext t = (⟨3, P.s, 0, 0, zeroLock, zeroLock⟩, true) ∧ AttR' P me rdo t ⟨0, lk, false, 0⟩ (found me st q lk) := by
  obtain ⟨bg, fl, fw, rfl⟩ := h
  have := found_ok (rdo := rdo) (me := me) (st := st) (fs := 0) (fl := fl) (fw := fw) (bg := bg) hP hq hq4 hlk
  exact ⟨rfl, fun _ _ _ _ _ => trivial, ⟨rfl, fun g => (by cases g), fun _ _ _ _ _ => ⟨trivial, this.ok⟩⟩, this.st, this.ra, this.rd⟩
theorem att_f1 {W : Int} (h : RA P me rdo t (.f1 st q v)) : attNext t = (⟨1, P.c, 0, 0, zeroLock, zeroLock⟩, true) ∧ AttR' P me rdo t ⟨W, zeroLock, false, 0⟩ (.f2 st q v W) := by
  obtain ⟨bg, fw, rfl⟩ := h
  exact ⟨rfl, fun _ _ _ _ _ => trivial, ⟨rfl, fun g => (by cases g), fun _ _ _ _ _ => ⟨trivial, told_f (.inl rfl)⟩⟩, by show (3 : Int) ≠ 8; decide, ⟨bg, rfl⟩, Nat.zero_le _⟩
theorem marked_s (hP : PrOk P) (w : Int) : marked (hasStripe [⟨P.c, w⟩] 4 1) 16 = [P.s] := by
  have h := hP.c
  have : P.c = 6 ∨ P.c = 7 ∨ P.c = 8 ∨ P.c = 9 ∨ P.c = 10 ∨ P.c = 11 ∨ P.c = 12 ∨ P.c = 13 ∨ P.c = 14 ∨ P.c = 15 := by omega
  have e : hasStripe [⟨P.c, w⟩] 4 1 = fun j : Nat => decide ((j : Int) = P.s) := by
    funext j
    have := (s_lt hP).1
    unfold inLen at this
    simp at this
    unfold hasStripe stripesOf
    simp only [List.map_cons, List.map_nil, List.filter_cons, List.filter_nil]
    rw [if_pos (by simpa using this.1)]
    simp
  rw [e]
  unfold Pr.s
  rcases this with e | e | e | e | e | e | e | e | e | e <;> rw [e] <;> decide
theorem att_f2 (hP : PrOk P) (hq : 0 ≤ q) (hq4 : q ≤ 4) (hlk : lk.held = false → lk = ⟨lk.version, false, 0⟩) (hw : 0 ≤ w ∧ (lk = ⟨v, false, 0⟩ → w < 9)) (hv : v ≤ TM) (h : RA P me rdo t (.f2 st q v w)) :
    attNext t = (⟨3, P.s, 0, 0, zeroLock, zeroLock⟩, true) ∧ AttR' P me rdo t ⟨0, lk, false, 0⟩ (if lk = ⟨v, false, 0⟩ then (if rdo = true then .go 2 0 (-1) w else .c0 st v w P.sp) else found me st q lk) := by
  obtain ⟨bg, rfl⟩ := h
  have sp := hP.sp
  have e2 : held P.sp 0 4 = P.sp := by unfold held; rw [if_neg (by omega), if_neg (by omega)]
  have en : newPat me P.sp = ⟨me, P.sp, 0, -1, 0⟩ := by unfold newPat; rw [e2]
  have hs := (s_lt hP).1
  unfold inLen at hs
  simp only [Bool.and_eq_true, decide_eq_true_eq] at hs
  have hTM : TM = 4611686018427387903 := rfl
  by_cases c : lk = ⟨v, false, 0⟩
  · rw [if_pos c]
    have c2 : (2 : Int) = 2 ∧ lk = (⟨v, false, 0⟩ : TLock) := ⟨rfl, c⟩
    have et : fetchTell ⟨⟨me, q, 0, -1, 0⟩, P.c, P.s, st, 2, ⟨v, false, 0⟩, w⟩ ⟨0, lk, false, 0⟩ = ⟨⟨me, q, 2, -1, 0⟩, P.c, P.s, st, 2, ⟨v, false, 0⟩, w⟩ := by
      simp [fetchTell, Pat.stopped, Pat.stop, c]
    have ei : (Inn.fetch ⟨⟨me, q, 0, -1, 0⟩, P.c, P.s, st, 2, ⟨v, false, 0⟩, w⟩).tell ⟨0, lk, false, 0⟩ = .fetch ⟨⟨me, q, 2, -1, 0⟩, P.c, P.s, st, 2, ⟨v, false, 0⟩, w⟩ := congrArg Inn.fetch et
    have ok : ToldOk P.c rdo (fAt P me rdo bg st 3 (.fetch ⟨⟨me, q, 2, -1, 0⟩, P.c, P.s, st, 2, ⟨v, false, 0⟩, w⟩)) := ⟨trivial, fun g e => (by cases e; exact ⟨rfl, rfl, rfl, rfl, by simp, fun _ => ⟨hw.1, by have := hw.2 c; simp only; omega, hs.1, by simp only; omega, by simp only; omega⟩⟩), fun g e => (by cases e), fun g e => (by cases e)⟩
    have ea : attTell P.c rdo (fAt P me rdo bg st 3 (.fetch ⟨⟨me, q, 0, -1, 0⟩, P.c, P.s, st, 2, ⟨v, false, 0⟩, w⟩)) ⟨0, lk, false, 0⟩ = attTold P.c rdo (fAt P me rdo bg st 3 (.fetch ⟨⟨me, q, 2, -1, 0⟩, P.c, P.s, st, 2, ⟨v, false, 0⟩, w⟩)) := by
      show attTold P.c rdo (fAt P me rdo bg st 3 ((Inn.fetch ⟨⟨me, q, 0, -1, 0⟩, P.c, P.s, st, 2, ⟨v, false, 0⟩, w⟩).tell ⟨0, lk, false, 0⟩)) = _
      rw [ei]
    cases rdo with
    | true =>
      rw [if_pos rfl]
      refine ⟨rfl, fun _ _ _ _ _ => trivial, ⟨rfl, fun g => (by cases g), fun _ _ _ _ _ => ⟨trivial, by rw [ei]; exact ok⟩⟩, ?_, ?_, ?_⟩
      · rw [ea]; show (7 : Int) ≠ 8; decide
      · rw [ea]
        exact ⟨rfl, rfl, rfl, rfl, rfl, Nat.le_of_ble_eq_true rfl, Nat.zero_le _, rfl, fun _ => rfl, Nat.le_of_ble_eq_true rfl⟩
      · rw [ea]; exact Nat.le_of_ble_eq_true rfl
    | false =>
      rw [if_neg (by decide)]
      refine ⟨rfl, fun _ _ _ _ _ => trivial, ⟨rfl, fun g => (by cases g), fun _ _ _ _ _ => ⟨trivial, by rw [ei]; exact ok⟩⟩, ?_, ?_, ?_⟩
      · rw [ea]; show (6 : Int) ≠ 8; decide
      · rw [ea]
        refine ⟨bg, zeroLock, 0, ?_⟩
        show cAt P me w v bg st (comNew me P.sp st [⟨P.s, v⟩] [⟨P.c, w + 1⟩] (marked (hasStripe [⟨P.c, w + 1⟩] 4 1) 16)) = _
        rw [marked_s hP, comNew, en]
        rfl
      · rw [ea]; exact Nat.le_of_ble_eq_true rfl
  · rw [if_neg c]
    have f := found_ok (rdo := rdo) (me := me) (st := st) (fs := 2) (fl := ⟨v, false, 0⟩) (fw := w) (bg := bg) hP hq hq4 hlk
    have et : fetchTell ⟨⟨me, q, 0, -1, 0⟩, P.c, P.s, st, 2, ⟨v, false, 0⟩, w⟩ ⟨0, lk, false, 0⟩ = fetchFound ⟨⟨me, q, 0, -1, 0⟩, P.c, P.s, st, 2, ⟨v, false, 0⟩, w⟩ lk := by
      simp [fetchTell, Pat.stopped, c]
    have ei : (Inn.fetch ⟨⟨me, q, 0, -1, 0⟩, P.c, P.s, st, 2, ⟨v, false, 0⟩, w⟩).tell ⟨0, lk, false, 0⟩ = .fetch (fetchFound ⟨⟨me, q, 0, -1, 0⟩, P.c, P.s, st, 2, ⟨v, false, 0⟩, w⟩ lk) := congrArg Inn.fetch et
    have ea : attTell P.c rdo (fAt P me rdo bg st 3 (.fetch ⟨⟨me, q, 0, -1, 0⟩, P.c, P.s, st, 2, ⟨v, false, 0⟩, w⟩)) ⟨0, lk, false, 0⟩ = attTold P.c rdo (fAt P me rdo bg st 3 (.fetch (fetchFound ⟨⟨me, q, 0, -1, 0⟩, P.c, P.s, st, 2, ⟨v, false, 0⟩, w⟩ lk))) := by
      show attTold P.c rdo (fAt P me rdo bg st 3 ((Inn.fetch ⟨⟨me, q, 0, -1, 0⟩, P.c, P.s, st, 2, ⟨v, false, 0⟩, w⟩).tell ⟨0, lk, false, 0⟩)) = _
      rw [ei]
    exact ⟨rfl, fun _ _ _ _ _ => trivial, ⟨rfl, fun g => (by cases g), fun _ _ _ _ _ => ⟨trivial, by rw [ei]; exact f.ok⟩⟩, by rw [ea]; exact f.st, by rw [ea]; exact f.ra, by rw [ea]; exact f.rd⟩
theorem att_ext {T : Int} (hP : PrOk P) (h : RA P me rdo t (.ext st)) : attNext t = (⟨6, 0, 0, 0, zeroLock, zeroLock⟩, true) ∧ AttR' P me rdo t ⟨T, zeroLock, false, 0⟩ (.f0 T P.sp) := by
  obtain ⟨bg, rfl⟩ := h
  have sp := hP.sp
  have e2 : held P.sp 0 4 = P.sp := by unfold held; rw [if_neg (by omega), if_neg (by omega)]
  have en : newPat me P.sp = ⟨me, P.sp, 0, -1, 0⟩ := by unfold newPat; rw [e2]
  refine ⟨rfl, fun _ _ _ _ _ => ⟨fun _ g => (by cases g), Nat.zero_le _⟩, ⟨rfl, fun g => (by cases g), fun _ _ _ _ _ => ⟨⟨fun _ g => (by cases g), Nat.zero_le _⟩, ⟨⟨fun g => (by cases g), Nat.zero_le _⟩, fun g e => (by cases e), fun g e => (by cases e; exact ⟨rfl, rfl, .inr (.inr rfl)⟩), fun g e => (by cases e)⟩⟩⟩, by show (3 : Int) ≠ 8; decide, ⟨bg, zeroLock, 0, ?_⟩, Nat.zero_le _⟩
  show fAt P me rdo bg T 3 (.fetch ⟨newPat me P.sp, P.c, P.s, T, 0, zeroLock, 0⟩) = _
  rw [en]

/-! ### a commit hears an answer -/
abbrev cm (P : Pr) (me : Nat) (q st v w : Int) (was : List TLock) (state : Int) (lk : TLock) (now : Int) (wr : Bool) (fin by_ err : Int) : ComS := ⟨⟨me, q, 0, -1, 0⟩, me, st, [⟨P.s, v⟩], [⟨P.c, w + 1⟩], [P.s], was, state, 0, lk, now, wr, fin, by_, err⟩
theorem com_ok {was : List TLock} {state : Int} {wr : Bool} {fin by_ err : Int} (h : ((state = 0 ∨ state = 1) ∧ was = []) ∨ ((state = 2 ∨ state = 3 ∨ state = 5 ∨ state = 6) ∧ was.length = 1) ∨ (state = 7 ∧ was.length = 1 ∧ fin ≠ 0)) :
    ComOk (cm P me q st v w was state lk now wr fin by_ err) := by
  have hl : was.length ≤ 1 := by rcases h with ⟨_, h⟩ | ⟨_, h⟩ | ⟨_, h, _⟩ <;> simp [h]
  refine ⟨⟨List.pairwise_singleton _ _, by simp, by simpa using hl, by simp, by simp⟩, by simp only; omega, by simp only; omega, fun _ => ?_⟩
  simp only [List.length_cons, List.length_nil]
  rcases h with ⟨h, rfl⟩ | ⟨h, h2⟩ | ⟨h, h2, h3⟩
  · exact ⟨by simp, by omega, by omega, by omega, by omega, by omega⟩
  · rw [h2]; exact ⟨by omega, by simp, by omega, by simp, by simp, by omega⟩
  · rw [h2]; exact ⟨by omega, by omega, by omega, by omega, by omega, by simp [h3]⟩

/-- a commit is at work and hears an answer -/
theorem com_hear {b : Int} {m m' : ComS} {sm : Int} {a : TAns} {ph : Ph} (ha : a.err = 0) (hm : ComOk m) (he : comTell m a = m') (h8 : (attTold P.c rdo (cAt P me w v b sm m')).state ≠ 8) (hr : RA P me rdo (attTold P.c rdo (cAt P me w v b sm m')) ph) (hd : (attTold P.c rdo (cAt P me w v b sm m')).rd.length ≤ 1000) :
    AttR' P me rdo (cAt P me w v b sm m) a ph := by
  have ea : attTell P.c rdo (cAt P me w v b sm m) a = attTold P.c rdo (cAt P me w v b sm m') := by
    subst he; rfl
  have ok2 := comTell_ok hm a
  refine ⟨fun _ _ _ _ _ => hm, ⟨ha, fun g => (by cases g), fun _ _ _ _ _ => ⟨hm, ⟨ok2, fun g e => (by cases e), fun g e => (by cases e), fun g e => rfl⟩⟩⟩, by rw [ea]; exact h8, by rw [ea]; exact hr, by rw [ea]; exact hd⟩

theorem att_c0 (hP : PrOk P) (hq : 0 ≤ q) (hq4 : q ≤ 4) (hlk : lk.held = false → lk = ⟨lk.version, false, 0⟩) (h : RA P me rdo t (.c0 st v w q)) :
    attNext t = (⟨3, P.s, 0, 0, zeroLock, zeroLock⟩, true) ∧ AttR' P me rdo t ⟨0, lk, false, 0⟩ (if lk.held = true then (if lk.owner > me then .c0 st v w q else if 0 ≤ q - 1 then .c0 st v w (q - 1) else .go 5 0 lk.owner 0) else .c1 st v w q lk.version) := by
  obtain ⟨b, fl, now, rfl⟩ := h
  have ew : IntKind.wrap .i64 (q - 1) = q - 1 := wi64 (by omega) (by omega)
  refine ⟨rfl, ?_⟩
  have ok : ComOk (cm P me q st v w [] 0 fl now false 0 0 0) := com_ok (.inl ⟨.inl rfl, rfl⟩)
  by_cases c : lk.held = true
  · rw [if_pos c]
    by_cases c2 : lk.owner > me
    · rw [if_pos c2]
      have e : comTell (cm P me q st v w [] 0 fl now false 0 0 0) ⟨0, lk, false, 0⟩ = cm P me q st v w [] 0 fl now false 0 0 0 := by
        simp [comTell, Pat.stopped, comTake, c, comHeld, Pat.waits, c2]
      exact com_hear rfl ok e (by show (6 : Int) ≠ 8; decide) ⟨b, fl, now, rfl⟩ (Nat.le_of_ble_eq_true rfl)
    · rw [if_neg c2]
      by_cases c3 : 0 ≤ q - 1
      · rw [if_pos c3]
        have c4 : decide (q - 1 ≥ 0) = true := by simpa using c3
        have e : comTell (cm P me q st v w [] 0 fl now false 0 0 0) ⟨0, lk, false, 0⟩ = cm P me (q - 1) st v w [] 0 fl now false 0 0 0 := by
          simp only [comTell, Pat.stopped, comTake, c, comHeld, Pat.waits, c2, ew, c4]; simp
        exact com_hear rfl ok e (by show (6 : Int) ≠ 8; decide) ⟨b, fl, now, rfl⟩ (Nat.le_of_ble_eq_true rfl)
      · rw [if_neg c3]
        have c4 : decide (q - 1 ≥ 0) = false := by simpa using c3
        have e : comTell (cm P me q st v w [] 0 fl now false 0 0 0) ⟨0, lk, false, 0⟩ = { cm P me (q - 1) st v w [] 7 fl now false 5 lk.owner 0 with pat := ⟨me, q - 1, 5, lk.owner, 0⟩ } := by
          simp only [comTell, Pat.stopped, comTake, c, comHeld, Pat.waits, c2, ew, c4, comStop, comLeave]; simp [Pat.stop]
        exact com_hear rfl ok e (by show (7 : Int) ≠ 8; decide) ⟨rfl, rfl, rfl, rfl, rfl, Nat.le_of_ble_eq_true rfl, Nat.le_of_ble_eq_true rfl, rfl, fun g => by omega, Nat.le_of_ble_eq_true rfl⟩ (Nat.le_of_ble_eq_true rfl)
  · rw [if_neg c]
    have hl : lk = ⟨lk.version, false, 0⟩ := hlk (by simpa using c)
    have e : comTell (cm P me q st v w [] 0 fl now false 0 0 0) ⟨0, lk, false, 0⟩ = cm P me q st v w [] 1 ⟨lk.version, false, 0⟩ now false 0 0 0 := by
      rw [hl]
      simp [comTell, Pat.stopped, comTake]
    exact com_hear rfl ok e (by show (6 : Int) ≠ 8; decide) ⟨b, now, rfl⟩ (Nat.le_of_ble_eq_true rfl)
theorem att_c1 (h : RA P me rdo t (.c1 st v w q V)) (d : Bool) :
    attNext t = (⟨4, P.s, 0, 0, ⟨V, false, 0⟩, ⟨V, true, me⟩⟩, true) ∧ AttR' P me rdo t ⟨0, zeroLock, d, 0⟩ (if d = true then .c2 st v w V else .c0 st v w q) := by
  obtain ⟨b, now, rfl⟩ := h
  refine ⟨rfl, ?_⟩
  have ok : ComOk (cm P me q st v w [] 1 ⟨V, false, 0⟩ now false 0 0 0) := com_ok (.inl ⟨.inr rfl, rfl⟩)
  cases d
  · have e : comTell (cm P me q st v w [] 1 ⟨V, false, 0⟩ now false 0 0 0) ⟨0, zeroLock, false, 0⟩ = cm P me q st v w [] 0 ⟨V, false, 0⟩ now false 0 0 0 := by
      simp [comTell, Pat.stopped, comTake]
    exact com_hear rfl ok e (by show (6 : Int) ≠ 8; decide) ⟨b, _, now, rfl⟩ (Nat.le_of_ble_eq_true rfl)
  · have e : comTell (cm P me q st v w [] 1 ⟨V, false, 0⟩ now false 0 0 0) ⟨0, zeroLock, true, 0⟩ = cm P me q st v w [⟨V, false, 0⟩] 2 ⟨V, false, 0⟩ now false 0 0 0 := by
      simp [comTell, Pat.stopped, comTake, comMore]
    exact com_hear rfl ok e (by show (6 : Int) ≠ 8; decide) ⟨b, q, _, now, rfl⟩ (Nat.le_of_ble_eq_true rfl)
theorem att_c2 {T : Int} (h : RA P me rdo t (.c2 st v w V)) :
    attNext t = (⟨6, 0, 0, 0, zeroLock, zeroLock⟩, true) ∧ AttR' P me rdo t ⟨T, zeroLock, false, 0⟩ (if TM ≤ T then .c7 V 4 7 else .c3 st v w V T) := by
  obtain ⟨b, q, fl, now, rfl⟩ := h
  refine ⟨rfl, ?_⟩
  have ok : ComOk (cm P me q st v w [⟨V, false, 0⟩] 2 fl now false 0 0 0) := com_ok (.inr (.inl ⟨.inl rfl, rfl⟩))
  by_cases c : TM ≤ T
  · rw [if_pos c]
    have e : comTell (cm P me q st v w [⟨V, false, 0⟩] 2 fl now false 0 0 0) ⟨T, zeroLock, false, 0⟩ = cm P me q st v w [⟨V, false, 0⟩] 7 fl now false 4 (-1) 7 := by
      simp [comTell, Pat.stopped, comRaise, c, comStop, comLeave]
    exact com_hear rfl ok e (by show (6 : Int) ≠ 8; decide) ⟨w, st, v, b, q, fl, now, rfl⟩ (Nat.le_of_ble_eq_true rfl)
  · rw [if_neg c]
    have e : comTell (cm P me q st v w [⟨V, false, 0⟩] 2 fl now false 0 0 0) ⟨T, zeroLock, false, 0⟩ = cm P me q st v w [⟨V, false, 0⟩] 3 fl T false 0 0 0 := by
      simp [comTell, Pat.stopped, comRaise, c]
    exact com_hear rfl ok e (by show (6 : Int) ≠ 8; decide) ⟨b, q, fl, rfl⟩ (Nat.le_of_ble_eq_true rfl)
theorem att_c3 (h0 : 0 ≤ now) (h1 : now < TM) (h : RA P me rdo t (.c3 st v w V now)) :
    attNext t = (⟨7, 0, now, now + 1, zeroLock, zeroLock⟩, true) ∧ AttR' P me rdo t ⟨0, zeroLock, true, 0⟩ (if now = st ∨ V = v then .c5 w V now else .c7 V 5 0) := by
  obtain ⟨b, q, fl, rfl⟩ := h
  have hTM : TM = 4611686018427387903 := rfl
  have ew : IntKind.wrap .u64 (now + 1) = now + 1 := wu64 (by omega) (by omega)
  refine ⟨by show ((⟨7, 0, now, IntKind.wrap .u64 (now + 1), zeroLock, zeroLock⟩ : TOp), true) = _; rw [ew], ?_⟩
  have ok : ComOk (cm P me q st v w [⟨V, false, 0⟩] 3 fl now false 0 0 0) := com_ok (.inr (.inl ⟨.inr (.inl rfl), rfl⟩))
  by_cases c : now = st ∨ V = v
  · rw [if_pos c]
    have e : comTell (cm P me q st v w [⟨V, false, 0⟩] 3 fl now false 0 0 0) ⟨0, zeroLock, true, 0⟩ = cm P me q st v w [⟨V, false, 0⟩] 5 fl now true 0 0 0 := by
      by_cases c2 : now = st
      · simp [comTell, Pat.stopped, comRaise, c2, comBegin, comWrite]
      · have c3 : V = v := by rcases c with c | c; exact absurd c c2; exact c
        simp [comTell, Pat.stopped, comRaise, c2, comProve, proveN, ownV, idxS, c3, comBegin, comWrite]
    exact com_hear rfl ok e (by show (6 : Int) ≠ 8; decide) ⟨st, v, b, q, fl, _, rfl⟩ (Nat.le_of_ble_eq_true rfl)
  · rw [if_neg c]
    have c2 : now ≠ st := fun g => c (.inl g)
    have c3 : V ≠ v := fun g => c (.inr g)
    have e : comTell (cm P me q st v w [⟨V, false, 0⟩] 3 fl now false 0 0 0) ⟨0, zeroLock, true, 0⟩ = cm P me q st v w [⟨V, false, 0⟩] 7 fl now false 5 (-1) 0 := by
      simp [comTell, Pat.stopped, comRaise, c2, comProve, proveN, ownV, idxS, c3, comStop, comLeave]
    exact com_hear rfl ok e (by show (6 : Int) ≠ 8; decide) ⟨w, st, v, b, q, fl, now, rfl⟩ (Nat.le_of_ble_eq_true rfl)
theorem att_c5 (h : RA P me rdo t (.c5 w V now)) :
    attNext t = (⟨2, P.c, 0, w + 1, zeroLock, zeroLock⟩, true) ∧ AttR' P me rdo t zeroAns (.c6 w V now) := by
  obtain ⟨st, v, b, q, fl, sm, rfl⟩ := h
  refine ⟨rfl, ?_⟩
  have ok : ComOk (cm P me q st v w [⟨V, false, 0⟩] 5 fl now true 0 0 0) := com_ok (.inr (.inl ⟨.inr (.inr (.inl rfl)), rfl⟩))
  have e : comTell (cm P me q st v w [⟨V, false, 0⟩] 5 fl now true 0 0 0) zeroAns = cm P me q st v w [⟨V, false, 0⟩] 6 fl now true 0 0 0 := by
    simp [comTell, Pat.stopped, zeroAns, comWrite, comGive]
  exact com_hear rfl ok e (by show (6 : Int) ≠ 8; decide) ⟨st, v, b, q, fl, _, rfl⟩ (Nat.le_of_ble_eq_true rfl)
theorem att_c6 (h0 : 0 ≤ now) (h1 : now < TM) (h : RA P me rdo t (.c6 w V now)) :
    attNext t = (⟨5, P.s, 0, 0, zeroLock, ⟨now + 1, false, 0⟩⟩, true) ∧ AttR' P me rdo t zeroAns (.go 2 0 (-1) (w + 1)) := by
  obtain ⟨st, v, b, q, fl, sm, rfl⟩ := h
  have hTM : TM = 4611686018427387903 := rfl
  have ew : IntKind.wrap .u64 (now + 1) = now + 1 := wu64 (by omega) (by omega)
  refine ⟨by show ((⟨5, P.s, 0, 0, zeroLock, ⟨IntKind.wrap .u64 (now + 1), false, 0⟩⟩ : TOp), true) = _; rw [ew], ?_⟩
  have ok : ComOk (cm P me q st v w [⟨V, false, 0⟩] 6 fl now true 0 0 0) := com_ok (.inr (.inl ⟨.inr (.inr (.inr rfl)), rfl⟩))
  have e : comTell (cm P me q st v w [⟨V, false, 0⟩] 6 fl now true 0 0 0) zeroAns = { cm P me q st v w [⟨V, false, 0⟩] 6 fl now true 0 0 0 with pos := 1, pat := ⟨me, q, 2, -1, 0⟩ } := by
    simp [comTell, Pat.stopped, zeroAns, comGive, Pat.stop]
  exact com_hear rfl ok e (by show (7 : Int) ≠ 8; decide) ⟨rfl, rfl, rfl, rfl, rfl, Nat.le_of_ble_eq_true rfl, Nat.le_of_ble_eq_true rfl, rfl, fun g => rfl, Nat.le_of_ble_eq_true rfl⟩ (Nat.le_of_ble_eq_true rfl)
theorem att_c7 (he : (e = 5 ∧ er = 0) ∨ (e = 4 ∧ er = 7)) (h : RA P me rdo t (.c7 V e er)) :
    attNext t = (⟨5, P.s, 0, 0, zeroLock, ⟨V, false, 0⟩⟩, true) ∧ AttR' P me rdo t zeroAns (.go e er (-1) 0) := by
  obtain ⟨w, st, v, b, q, fl, now, rfl⟩ := h
  refine ⟨rfl, ?_⟩
  have ok : ComOk (cm P me q st v w [⟨V, false, 0⟩] 7 fl now false e (-1) er) := com_ok (.inr (.inr ⟨rfl, rfl, by omega⟩))
  have e1 : comTell (cm P me q st v w [⟨V, false, 0⟩] 7 fl now false e (-1) er) zeroAns = { cm P me q st v w [⟨V, false, 0⟩] 7 fl now false e (-1) er with pos := 1, pat := ⟨me, q, e, -1, er⟩ } := by
    simp [comTell, Pat.stopped, zeroAns, comLeave, Pat.stop]
  rcases he with ⟨rfl, rfl⟩ | ⟨rfl, rfl⟩ <;>
  exact com_hear rfl ok e1 (by show (7 : Int) ≠ 8; decide) ⟨rfl, rfl, rfl, rfl, rfl, Nat.le_of_ble_eq_true rfl, Nat.le_of_ble_eq_true rfl, rfl, fun g => by omega, Nat.le_of_ble_eq_true rfl⟩ (Nat.le_of_ble_eq_true rfl)
end

/-! ### a thread -/
section
variable {P : Pr} {me ot : Nat} {m : AM} {a b : AT} {x : ThrS} {t : AttS} {draw pick : Int}

theorem jobs_len (i : Nat) : (jobsOf P i).length = P.K i := by
  unfold jobsOf Pr.K
  cases P.rd <;> simp
theorem jobs_at {i j : Nat} (h : j < P.K i) : (jobsOf P i)[j]? = some (progOf P.c (rdoOf P i j)) := by
  unfold Pr.K at h
  unfold jobsOf rdoOf
  rcases Nat.lt_or_ge j (P.k i) with hlt | hge
  · rw [List.getElem?_append_left (by simpa using hlt), List.getElem?_replicate, if_pos hlt]
    simp [progOf]; omega
  · cases hr : P.rd
    · rw [hr] at h; simp at h; omega
    · rw [hr] at h; simp only [if_true] at h
      rw [List.getElem?_append_right (by simpa using hge)]
      have : j = P.k i := by omega
      subst this
      simp [progOf]
theorem jobs_ok (hP : PrOk P) {i : Nat} : ∀ p ∈ jobsOf P i, OkProg p := by
  intro p hp
  have hc := hP.c
  unfold jobsOf at hp
  rcases List.mem_append.1 hp with h | h
  · rw [(List.mem_replicate.1 h).2]; exact addsP_ok hc.1 hc.2
  · split at h
    · rw [List.mem_singleton.1 h]; exact readsP_ok hc.1 hc.2
    · cases h
theorem RT.jobsOk (hP : PrOk P) (h : RT P me x a) (hj : a.job ≤ P.K me) : JobsOk x :=
  ⟨by rw [h.job]; omega, by rw [h.job, h.jobs, jobs_len]; omega, by rw [h.jobs]; exact jobs_ok hP⟩
theorem Lo_job {o : Ph} {job : Nat} {p : Ph} (h : LoP P m me job o p) : job ≤ P.K me := by
  have := K_le (P := P) (me := me)
  cases p <;> simp only [LoP] at h <;> omega

theorem attNew_of (hP : PrOk P) {s : TSet} {i : Int} (rdo : Bool) (hs : s = setOf P) (hi : i = me) : attNew i s (progOf P.c rdo) = at0 P me rdo := by
  subst hs hi
  unfold attNew
  rw [heldSet_of hP]
  rfl

/-- on with the job at hand -/
theorem again_rt (hP : PrOk P) {job : Nat} {res : List (Int × Int × Int)} (h1 : x.me = me) (h2 : x.s = setOf P) (h3 : x.jobs = jobsOf P me) (h4 : x.job = job)
    (h5 : x.res.map (fun r => (r.kind, r.err, r.slate)) = res.map (fun r => (r.1, r.2.1, if r.1 = 2 then textV [r.2.2] else ⟨#[]⟩))) (hj : job ≤ P.K me) :
    RT P me (thrAgain x) ⟨if job = P.K me then .fin else .coming, job, res⟩ ∧ (thrAgain x).past = x.past ∧ (thrAgain x).res = x.res := by
  unfold thrAgain
  have hjn : x.job.toNat = job := by rw [h4]; rfl
  by_cases c : job = P.K me
  · have e : x.jobs[x.job.toNat]? = none := by rw [h3, hjn, c]; exact List.getElem?_eq_none (by rw [jobs_len]; exact Nat.le_refl _)
    rw [e, if_pos c]
    exact ⟨⟨h1, h2, h3, h4, h5, fun t g => (by cases g), rfl⟩, rfl, rfl⟩
  · have e : x.jobs[x.job.toNat]? = some (progOf P.c (rdoOf P me job)) := by rw [h3, hjn]; exact jobs_at (by omega)
    rw [e, if_neg c]
    refine ⟨⟨h1, h2, h3, h4, h5, fun t g => ?_, rfl, _, rfl, attNew_of hP _ h2 h1⟩, rfl, rfl⟩
    cases g; exact Nat.zero_le _

theorem pauseOf_le {conf : Int} (d0 : 0 ≤ draw) : 0 ≤ pauseOf conf draw ∧ pauseOf conf draw ≤ 8 := by
  have := mostN_le (fewer conf).toNat
  unfold pauseOf
  have h1 := Int.tmod_nonneg (mostN (fewer conf).toNat + 1) d0
  have h2 := Int.tmod_lt_of_pos draw (show 0 < mostN (fewer conf).toNat + 1 by omega)
  omega
theorem pause_rt (hP : PrOk P) {job : Nat} {res : List (Int × Int × Int)} (h1 : x.me = me) (h2 : x.s = setOf P) (h3 : x.jobs = jobsOf P me) (h4 : x.job = job) (hrd : ∀ t, x.now = some t → t.rd.length ≤ 1000)
    (h5 : x.res.map (fun r => (r.kind, r.err, r.slate)) = res.map (fun r => (r.1, r.2.1, if r.1 = 2 then textV [r.2.2] else ⟨#[]⟩))) (hj : job < P.K me) :
    RT P me (thrPause x draw) ⟨pausing (pauseOf x.conf draw), job, res⟩ ∧ (thrPause x draw).past = x.past ∧ (thrPause x draw).res = x.res := by
  unfold thrPause pausing
  by_cases c : pauseOf x.conf draw = 0
  · rw [if_pos c, if_pos c]
    have := again_rt (x := { x with pauses := 0, state := 3 }) hP h1 h2 h3 h4 h5 (by omega)
    rw [if_neg (by omega)] at this
    exact this
  · rw [if_neg c, if_neg c]
    exact ⟨⟨h1, h2, h3, h4, h5, hrd, rfl, rfl⟩, rfl, rfl⟩

theorem RPh_of {job : Nat} {p : Ph} (h1 : x.state = 1) (h2 : x.now = some t) (h : RA P me (rdoOf P me job) t p) : RPh P me job x p := by
  cases p <;> first | exact ⟨h1, t, h2, h⟩ | exact h.elim

def isGo : Ph → Nat
  | .go _ _ _ _ => 1
  | _ => 0
/-- what is to be shown of a pick -/
structure Picked (P : Pr) (me : Nat) (m : AM) (a : AT) (M : MemS) (x : ThrS) (draw pick : Int) : Prop where
  did : (thrNext x).2 = true
  hear : x.past ≤ 1000000 → HearOk P.c (rdoOf P me a.job) x (memDo M (thrNext x).1).2
  is : ∃ p, 0 ≤ p ∧ p ≤ 8 ∧ RM P (memDo M (thrNext x).1).1 (stepT P me m a p).1 ∧ RT P me (thrTell P.c (rdoOf P me a.job) x (memDo M (thrNext x).1).2 draw pick) (stepT P me m a p).2
  past : (thrTell P.c (rdoOf P me a.job) x (memDo M (thrNext x).1).2 draw pick).past = x.past + isGo a.ph

theorem res_few (h : RT P me x a) (hr : a.res.length = a.job) (hj : a.job ≤ P.K me) (hP : PrOk P) (hm : me < 2) : x.res.length ≤ 1000000 ∧ x.jobs.length ≤ 1000000 := by
  have h1 := congrArg List.length h.res
  simp only [List.length_map] at h1
  have h2 := K_le (P := P) (me := me)
  have h3 := hP.jobs
  rw [h.jobs, jobs_len]
  have : P.k me ≤ 6 := by
    obtain rfl | rfl : me = 0 ∨ me = 1 := by omega
    · exact h3.1
    · exact h3.2
  omega

/-- the attempt at work hears an answer and goes on -/
theorem run_picked {M : MemS} {o : TOp} {ans : TAns} {p' : Ph} {m' : AM} (hP : PrOk P) (hme : me < 2) (hx : RT P me x a) (hr : a.res.length = a.job) (hj : a.job ≤ P.K me) (s1 : x.state = 1) (hn : x.now = some t) (hgo : isGo a.ph = 0)
    (hA : attNext t = (o, true) ∧ AttR' P me (rdoOf P me a.job) t ans p') (hM : (memStep M o).2 = ans ∧ RM P (memStep M o).1 m') (hs : ∀ p, stepT P me m a p = (m', { a with ph := p' })) : Picked P me m a M x draw pick := by
  obtain ⟨h1, h2⟩ := hA
  have en : thrNext x = (o, true) := by unfold thrNext; rw [if_pos s1]; simp only [hn]; exact h1
  have ea : (memDo M o).2 = ans := by rw [memDo_an]; exact hM.1
  have et : thrTell P.c (rdoOf P me a.job) x ans draw pick = { x with now := some (attTell P.c (rdoOf P me a.job) t ans), born := if (attTell P.c (rdoOf P me a.job) t ans).begun && !t.begun then pick else x.born } := by
    unfold thrTell; rw [if_pos s1]; simp only [hn]; unfold thrHeard; rw [if_neg (fun g => h2.st g.1)]
  have hf := res_few hx hr hj hP hme
  refine ⟨by rw [en], fun hp => ?_, ⟨0, by decide, by decide, ?_, ?_⟩, ?_⟩
  · rw [en]; simp only; rw [ea]
    exact ⟨hx.jobsOk hP hj, hf.2, hp, hf.1, fun _ => ⟨t, hn, h2.tell, fun g => absurd g h2.st⟩⟩
  · rw [en, hs]; exact memDo_rm hM.2
  · rw [en, hs]; simp only; rw [ea, et]
    exact ⟨hx.me, hx.s, hx.jobs, hx.job, hx.res, fun t' g => (by cases g; exact h2.rd), RPh_of s1 rfl h2.ra⟩
  · rw [en]; simp only; rw [ea, et, hgo]; rfl

theorem go_picked {M : MemS} {e er bb it : Int} (hP : PrOk P) (hme : me < 2) (hn2 : me < P.n) (hM : RM P M m) (hx : RT P me x a) (hr : a.res.length = a.job) (hj : a.job < P.K me) (d0 : 0 ≤ draw) (hp : a.ph = .go e er bb it)
    (he : (e = 2 ∧ 0 ≤ it ∧ it < 10) ∨ e = 5 ∨ (e = 4 ∧ er = 7)) : Picked P me m a M x draw pick := by
  obtain ⟨ph, job, res⟩ := a
  simp only at hp hr hj
  subst hp
  obtain ⟨s1, t, hn, hA⟩ := hx.ph
  have hA : GoR me t e er bb it := hA
  have n0 : ¬ t.state = 0 := by rw [hA.st]; decide
  have n1 : ¬ t.state = 1 := by rw [hA.st]; decide
  have n2 : ¬ t.state = 2 := by rw [hA.st]; decide
  have n8 : ¬ t.state = 8 := by rw [hA.st]; decide
  have hf := res_few hx hr (by simp only; omega) hP hme
  have h1 : attNext t = (⟨9, me, 0, 0, zeroLock, zeroLock⟩, true) := by unfold attNext; rw [if_neg n0, if_neg n1, if_neg n2, if_pos hA.st, hA.who]
  have hok : ∀ (a : TAns), attTell P.c (rdoOf P me job) t a = { t with state := 8 } := fun a => by
    unfold attTell; rw [if_neg n8, if_neg n0, if_neg n1, if_neg n2, if_pos hA.st]
  obtain ⟨m1, m2⟩ := mem_mark (x := 0) hP hn2 hM
  have en : thrNext x = (⟨9, me, 0, 0, zeroLock, zeroLock⟩, true) := by unfold thrNext; rw [if_pos s1]; simp only [hn]; exact h1
  have ea : (memDo M ⟨9, me, 0, 0, zeroLock, zeroLock⟩).2 = zeroAns := by rw [memDo_an]; exact m1
  have hfin : t.fin ≠ 0 := by rw [hA.fin]; omega
  have g3 : t.fin ≠ 3 := by rw [hA.fin]; omega
  have hg : GoneOk { t with state := 8 } := ⟨rfl, hA.known, hA.cells, hA.frees, fun g => by
    have : e = 2 := hA.fin.symm.trans g
    rw [show ({ t with state := 8 } : AttS).run.items = [it] from hA.items this]
    exact ⟨rfl, fun n hn => by rw [List.mem_singleton.1 hn]; omega⟩⟩
  have hjob := hx.jobsOk hP (by simp only; omega)
  have hlen : x.jobs.length = P.K me := by rw [hx.jobs, jobs_len]
  have hxj := hx.job
  simp only at hxj
  have hear : x.past ≤ 1000000 → HearOk P.c (rdoOf P me job) x zeroAns := fun hpast => ⟨hjob, hf.2, hpast, hf.1, fun _ => ⟨t, hn, ⟨rfl, fun g => absurd g n2, fun g1 g2 g3 g4 g5 => absurd hA.st g4⟩, fun _ => by
    rw [hok]; exact ⟨hg, g3, by omega⟩⟩⟩
  have et : thrTell P.c (rdoOf P me job) x zeroAns draw pick = thrEnded { x with now := some { t with state := 8 }, born := if t.begun && !t.begun then pick else x.born } { t with state := 8 } draw := by
    unfold thrTell; rw [if_pos s1]; simp only [hn, hok]; unfold thrHeard; rw [if_pos ⟨rfl, hfin⟩]
  generalize (if t.begun && !t.begun then pick else x.born) = born at et
  have hs := hx.s
  have hthr : x.s.threads = P.n := by rw [hs]
  by_cases c : e = 5
  · by_cases c2 : 0 ≤ bb ∧ bb < P.n
    · have ee : thrEnded { x with now := some { t with state := 8 }, born := born } { t with state := 8 } draw = { x with now := some { t with state := 8 }, born := born, past := x.past + 1, tries := IntKind.wrap .i64 (x.tries + 1), conf := IntKind.wrap .i64 (x.conf + 1), state := 2, by_ := bb, yld := false } := by
        unfold thrEnded
        simp only
        rw [if_pos (by rw [hA.fin]; exact c), if_pos (by rw [hA.by_, hthr]; exact c2), hA.by_]
      have es : ∀ p, stepT P me m ⟨.go e er bb it, job, res⟩ p = (m.setE me 0, ⟨.yld bb 0 false, job, res⟩) := fun p => by simp only [stepT, ended, if_pos c, if_pos c2]
      refine ⟨by rw [en], fun hpast => by rw [en]; simp only; rw [ea]; exact hear hpast, ⟨0, by decide, by decide, by rw [en, es]; exact memDo_rm m2, ?_⟩, ?_⟩
      · rw [en, es]; simp only; rw [ea, et, ee]
        exact ⟨hx.me, hx.s, hx.jobs, hx.job, hx.res, fun t' g => (by cases g; exact hA.rd), rfl, rfl, rfl, fun g => (by cases g)⟩
      · rw [en]; simp only; rw [ea, et, ee]; rfl
    · have ee : thrEnded { x with now := some { t with state := 8 }, born := born } { t with state := 8 } draw = thrPause { x with now := some { t with state := 8 }, born := born, past := x.past + 1, tries := IntKind.wrap .i64 (x.tries + 1), conf := IntKind.wrap .i64 (x.conf + 1) } draw := by
        unfold thrEnded
        simp only
        rw [if_pos (by rw [hA.fin]; exact c), if_neg (by rw [hA.by_, hthr]; exact c2)]
      have hpr := pause_rt (draw := draw) (x := { x with now := some { t with state := 8 }, born := born, past := x.past + 1, tries := IntKind.wrap .i64 (x.tries + 1), conf := IntKind.wrap .i64 (x.conf + 1) }) (me := me) (job := job) (res := res) hP hx.me hx.s hx.jobs hx.job (fun t' g => (by cases g; exact hA.rd)) hx.res hj
      have hpl := pauseOf_le (draw := draw) (conf := IntKind.wrap .i64 (x.conf + 1)) d0
      have es : ∀ p, stepT P me m ⟨.go e er bb it, job, res⟩ p = (m.setE me 0, ⟨pausing p, job, res⟩) := fun p => by simp only [stepT, ended, if_pos c, if_neg c2]
      refine ⟨by rw [en], fun hpast => by rw [en]; simp only; rw [ea]; exact hear hpast, ⟨_, hpl.1, hpl.2, by rw [en, es]; exact memDo_rm m2, ?_⟩, ?_⟩
      · rw [en, es]; simp only; rw [ea, et, ee]
        exact hpr.1
      · rw [en]; simp only; rw [ea, et, ee, hpr.2.1]; rfl
  · have ee : thrEnded { x with now := some { t with state := 8 }, born := born } { t with state := 8 } draw = thrFollow { x with now := some { t with state := 8 }, born := born, past := x.past + 1, tries := IntKind.wrap .i64 (x.tries + 1), res := x.res ++ [⟨t.fin, t.err, textOf { t with state := 8 }, t.stamp⟩] } := by
      unfold thrEnded
      rw [if_neg (by rw [show ({ t with state := 8 } : AttS).fin = e from hA.fin]; exact c)]
    have htx : textOf { t with state := 8 } = if e = 2 then textV [it] else ⟨#[]⟩ := by
      unfold textOf
      simp only [hA.fin]
      by_cases c2 : e = 2
      · rw [if_pos c2, if_pos c2, hA.items c2]
      · rw [if_neg c2, if_neg c2]
    have her : (x.res ++ [(⟨t.fin, t.err, textOf { t with state := 8 }, t.stamp⟩ : TRes)]).map (fun r => (r.kind, r.err, r.slate)) = (res ++ [(e, er, it)]).map (fun r => (r.1, r.2.1, if r.1 = 2 then textV [r.2.2] else ⟨#[]⟩)) := by
      rw [List.map_append, List.map_append, hx.res, htx]
      simp only [List.map_cons, List.map_nil, hA.fin, hA.err]
    have hag := again_rt (x := { x with now := some { t with state := 8 }, born := born, past := x.past + 1, tries := 0, conf := 0, job := x.job + 1, res := x.res ++ [⟨t.fin, t.err, textOf { t with state := 8 }, t.stamp⟩] }) (me := me) (job := job + 1) (res := res ++ [(e, er, it)]) hP hx.me hx.s hx.jobs (by simp only; omega) her (by omega)
    have es : ∀ p, stepT P me m ⟨.go e er bb it, job, res⟩ p = (m.setE me 0, ⟨if job + 1 = P.K me then .fin else .coming, job + 1, res ++ [(e, er, it)]⟩) := fun p => by simp only [stepT, ended, if_neg c]
    refine ⟨by rw [en], fun hpast => by rw [en]; simp only; rw [ea]; exact hear hpast, ⟨0, by decide, by decide, by rw [en, es]; exact memDo_rm m2, ?_⟩, ?_⟩
    · rw [en, es]; simp only; rw [ea, et, ee]
      exact hag.1
    · rw [en]; simp only; rw [ea, et, ee]
      exact hag.2.1

theorem yld_picked {M : MemS} {bb since : Int} {y : Bool} (hP : PrOk P) (hme : me < 2) (hM : RM P M m) (hx : RT P me x a) (hr : a.res.length = a.job) (hj : a.job < P.K me) (d0 : 0 ≤ draw) (hp : a.ph = .yld bb since y) (hb : bb = 0) : Picked P me m a M x draw pick := by
  obtain ⟨ph, job, res⟩ := a
  simp only at hp hr hj
  subst hp hb
  obtain ⟨s2, b1, b2, b3⟩ := hx.ph
  have n1 : ¬ x.state = 1 := by rw [s2]; decide
  have hf := res_few hx hr (by simp only; omega) hP hme
  have hn := hP.n
  have hm := mem_epoch (i := 0) (by omega) hM
  have en : thrNext x = (⟨8, 0, 0, 0, zeroLock, zeroLock⟩, true) := by unfold thrNext; rw [if_neg n1, if_pos s2, b1]
  have ea : (memDo M ⟨8, 0, 0, 0, zeroLock, zeroLock⟩).2 = ⟨m.e 0, zeroLock, false, 0⟩ := by rw [memDo_an]; exact congrArg Prod.snd hm
  have em : RM P (memDo M ⟨8, 0, 0, 0, zeroLock, zeroLock⟩).1 m := memDo_rm (by have := congrArg Prod.fst hm; exact this ▸ hM)
  have hear : x.past ≤ 1000000 → HearOk P.c (rdoOf P me job) x ⟨m.e 0, zeroLock, false, 0⟩ := fun hpast => ⟨hx.jobsOk hP (by simp only; omega), hf.2, hpast, hf.1, fun g => absurd g n1⟩
  have et : thrTell P.c (rdoOf P me job) x ⟨m.e 0, zeroLock, false, 0⟩ draw pick = thrYield x ⟨m.e 0, zeroLock, false, 0⟩ draw := by unfold thrTell; rw [if_neg n1, if_pos s2]
  by_cases c : m.e 0 ≠ 0 ∧ (y = false ∨ m.e 0 = since)
  · have ey : thrYield x ⟨m.e 0, zeroLock, false, 0⟩ draw = { x with yld := true, since := m.e 0 } := by
      unfold thrYield
      rw [if_pos]
      refine ⟨rfl, c.1, ?_⟩
      rcases c.2 with g | g
      · exact .inl (by rw [b2]; exact g)
      · cases hy : y
        · exact .inl (by rw [b2, hy])
        · exact .inr (by rw [b3 hy]; exact g)
    have es : ∀ p, stepT P me m ⟨.yld 0 since y, job, res⟩ p = (m, ⟨.yld 0 (m.e 0) true, job, res⟩) := fun p => by
      simp only [stepT]; rw [if_pos (by exact c)]; rfl
    refine ⟨by rw [en], fun hpast => by rw [en]; simp only; rw [ea]; exact hear hpast, ⟨0, by decide, by decide, by rw [en, es]; exact em, ?_⟩, ?_⟩
    · rw [en, es]; simp only; rw [ea, et, ey]
      exact ⟨hx.me, hx.s, hx.jobs, hx.job, hx.res, hx.rd, s2, b1, rfl, fun _ => rfl⟩
    · rw [en]; simp only; rw [ea, et, ey]; rfl
  · have ey : thrYield x ⟨m.e 0, zeroLock, false, 0⟩ draw = thrPause x draw := by
      unfold thrYield
      rw [if_neg]
      rintro ⟨_, g1, g2⟩
      refine c ⟨g1, ?_⟩
      cases hy : y
      · exact .inl rfl
      · rcases g2 with g | g
        · rw [b2, hy] at g; cases g
        · exact .inr (by rw [← b3 hy]; exact g)
    have es : ∀ p, stepT P me m ⟨.yld 0 since y, job, res⟩ p = (m, ⟨pausing p, job, res⟩) := fun p => by
      simp only [stepT]; rw [if_neg (by exact c)]
    have hpr := pause_rt (draw := draw) (x := x) (me := me) (job := job) (res := res) hP hx.me hx.s hx.jobs hx.job hx.rd hx.res hj
    have hpl := pauseOf_le (draw := draw) (conf := x.conf) d0
    refine ⟨by rw [en], fun hpast => by rw [en]; simp only; rw [ea]; exact hear hpast, ⟨_, hpl.1, hpl.2, by rw [en, es]; exact em, ?_⟩, ?_⟩
    · rw [en, es]; simp only; rw [ea, et, ey]; exact hpr.1
    · rw [en]; simp only; rw [ea, et, ey, hpr.2.1]; rfl

/-- what is to be shown of a pick of a thread that has nothing to do -/
structure Idle (P : Pr) (me : Nat) (m : AM) (a : AT) (x : ThrS) : Prop where
  did : (thrNext x).2 = false
  pauses : x.state = 3 → 1 ≤ x.pauses ∧ x.pauses ≤ 100
  is : (stepT P me m a 0).1 = m ∧ RT P me (thrRest x) (stepT P me m a 0).2
  past : (thrRest x).past = x.past

theorem step_rel {M : MemS} (hP : PrOk P) (ho : Pair me ot) (h : Inv P m me ot a b) (hn : me < P.n) (hM : RM P M m) (hx : RT P me x a) (d0 : 0 ≤ draw) :
    (x.state ≠ 5 ∧ x.state ≠ 4) ∧ (x.state = 1 → ∃ t, x.now = some t ∧ (t.state ≠ 0 → t.state ≠ 1 → t.state ≠ 2 → t.state ≠ 7 → t.state ≠ 8 → t.inn.ok)) ∧ JobsOk x ∧ (Idle P me m a x ∨ Picked P me m a M x draw pick) := by
  have hme : me < 2 := by omega
  have hla := h.la
  have hg := h.g
  have hr := h.ra.len
  have hj := Lo_job hla
  have hjk := hx.jobsOk hP hj
  have free : m.lk.held = false → m.lk = ⟨m.lk.version, false, 0⟩ := fun c => free_lk hg (by simp [c])
  have t1 := hg.t1
  have hk := K_le (P := P) (me := me)
  have mf : ∀ {o : TOp} {ans : TAns}, memStep M o = (M, ans) → (memStep M o).2 = ans ∧ RM P (memStep M o).1 m := fun e => by rw [e]; exact ⟨rfl, hM⟩
  have main : ∀ {o : TOp} {ans : TAns} {p' : Ph} {m' : AM}, isGo a.ph = 0 → (x.state = 1 ∧ ∃ t, x.now = some t ∧ attNext t = (o, true) ∧ AttR' P me (rdoOf P me a.job) t ans p') → ((memStep M o).2 = ans ∧ RM P (memStep M o).1 m') → (∀ p, stepT P me m a p = (m', { a with ph := p' })) →
      (x.state ≠ 5 ∧ x.state ≠ 4) ∧ (x.state = 1 → ∃ t, x.now = some t ∧ (t.state ≠ 0 → t.state ≠ 1 → t.state ≠ 2 → t.state ≠ 7 → t.state ≠ 8 → t.inn.ok)) ∧ JobsOk x ∧ (Idle P me m a x ∨ Picked P me m a M x draw pick) := by
    rintro o ans p' m' hgo ⟨s1, t, hn, hA⟩ hM' hs
    exact ⟨by rw [s1]; decide, fun _ => ⟨t, hn, hA.2.ok⟩, hjk, .inr (run_picked hP hme hx hr hj s1 hn hgo hA hM' hs)⟩
  have hph := hx.ph
  cases hp : a.ph <;> rw [hp] at hla hph
  case coming =>
    obtain ⟨s1, t, hn2, hA⟩ := hph
    exact main (by rw [hp]; rfl) ⟨s1, t, hn2, att_coming hA⟩ (mem_mark hP hn hM) (fun p => by unfold stepT; rw [hp])
  case asking =>
    obtain ⟨s1, t, hn2, hA⟩ := hph
    exact main (by rw [hp]; rfl) ⟨s1, t, hn2, att_asking hA⟩ (mf (mem_clock hM)) (fun p => by unfold stepT; rw [hp])
  case marking st =>
    obtain ⟨s1, t, hn2, hA⟩ := hph
    obtain ⟨h1, h2, h3, h4⟩ := hla
    exact main (by rw [hp]; rfl) ⟨s1, t, hn2, att_marking hP h3 (by omega) hA⟩ (mem_mark hP hn hM) (fun p => by unfold stepT; rw [hp])
  case f0 st q =>
    obtain ⟨s1, t, hn2, hA⟩ := hph
    obtain ⟨h1, h2, h3, h4, h5, h6⟩ := hla
    exact main (by rw [hp]; rfl) ⟨s1, t, hn2, att_f0 hP h5 h6 free hA⟩ (mf (mem_lock hP hM)) (fun p => by unfold stepT; rw [hp])
  case f1 st q v =>
    obtain ⟨s1, t, hn2, hA⟩ := hph
    exact main (by rw [hp]; rfl) ⟨s1, t, hn2, att_f1 hA⟩ (mf (mem_load (me := 0) (st := 0) (q := 0) (v := 0) hP hM)) (fun p => by unfold stepT; rw [hp])
  case f2 st q v w =>
    obtain ⟨s1, t, hn2, hA⟩ := hph
    obtain ⟨h1, h2, h3, h4, h5, h6, h7, h8, h9, h10, h11, h12⟩ := hla
    refine main (by rw [hp]; rfl) ⟨s1, t, hn2, att_f2 hP h5 h6 free ⟨h11, fun c => ?_⟩ (by omega) hA⟩ (mf (mem_lock hP hM)) (fun p => by unfold stepT; rw [hp]; simp only [rdoOf, decide_eq_true_eq])
    have hd := (dirty_free h.lb (by rw [c])).1
    have := h12 (by rw [c]) hd
    have := h.small hP ho h1 (by rw [hp]; rfl)
    omega
  case ext st =>
    obtain ⟨s1, t, hn2, hA⟩ := hph
    exact main (by rw [hp]; rfl) ⟨s1, t, hn2, att_ext hP hA⟩ (mf (mem_clock hM)) (fun p => by unfold stepT; rw [hp])
  case c0 st v w q =>
    obtain ⟨s1, t, hn2, hA⟩ := hph
    obtain ⟨h1, h2, h3, h4, h5, h6, h7⟩ := hla
    exact main (by rw [hp]; rfl) ⟨s1, t, hn2, att_c0 hP h5 h6 free hA⟩ (mf (mem_lock hP hM)) (fun p => by unfold stepT; rw [hp])
  case c1 st v w q V =>
    obtain ⟨s1, t, hn2, hA⟩ := hph
    obtain ⟨h1, h2, h3, h4, h5, h6, h7, h8, h9, h10, h11, h12, h13⟩ := hla
    have hTM : TM = 4611686018427387903 := rfl
    have hl : isLock ⟨V, true, me⟩ = true := by
      unfold isLock; simp; omega
    refine main (by rw [hp]; rfl) ⟨s1, t, hn2, att_c1 hA (decide (m.lk = ⟨V, false, 0⟩))⟩ (mem_cas hP hM hl) (fun p => ?_)
    unfold stepT; rw [hp]
    by_cases c : m.lk = ⟨V, false, 0⟩
    · simp only [c, if_true, decide_true]
    · simp only [c, if_false, decide_false, Bool.false_eq_true]
  case c2 st v w V =>
    obtain ⟨s1, t, hn2, hA⟩ := hph
    exact main (by rw [hp]; rfl) ⟨s1, t, hn2, att_c2 hA⟩ (mf (mem_clock hM)) (fun p => by unfold stepT; rw [hp])
  case c3 st v w V now =>
    obtain ⟨s1, t, hn2, hA⟩ := hph
    obtain ⟨h1, h2, h3, h4, h5, h6, h7, h8, h9, h10, h11, h12⟩ := hla
    exact main (by rw [hp]; rfl) ⟨s1, t, hn2, att_c3 (by omega) h12 hA⟩ (mem_raise hM h11.symm h12) (fun p => by unfold stepT; rw [hp]; simp only [if_pos h11.symm])
  case c5 w V now =>
    obtain ⟨s1, t, hn2, hA⟩ := hph
    exact main (by rw [hp]; rfl) ⟨s1, t, hn2, att_c5 hA⟩ (mem_store hP hM) (fun p => by unfold stepT; rw [hp])
  case c6 w V now =>
    obtain ⟨s1, t, hn2, hA⟩ := hph
    obtain ⟨h1, h2, h3, h4, h5, h6, h7⟩ := hla
    have hv := hg.v0
    rw [h5] at hv
    simp only at hv
    have hTM : TM = 4611686018427387903 := rfl
    have hl : isLock ⟨now + 1, false, 0⟩ = true := by
      unfold isLock; simp; omega
    exact main (by rw [hp]; rfl) ⟨s1, t, hn2, att_c6 (by omega) (by omega) hA⟩ (mem_setLock hP hM hl) (fun p => by unfold stepT; rw [hp])
  case c7 V e er =>
    obtain ⟨s1, t, hn2, hA⟩ := hph
    obtain ⟨h1, h2, h3, h4⟩ := hla
    have hv := hg.v1
    rw [h3] at hv
    simp only at hv
    have hTM : TM = 4611686018427387903 := rfl
    have hl : isLock ⟨V, false, 0⟩ = true := by
      unfold isLock; simp; omega
    exact main (by rw [hp]; rfl) ⟨s1, t, hn2, att_c7 (by omega) hA⟩ (mem_setLock hP hM hl) (fun p => by unfold stepT; rw [hp])
  case go e er bb it =>
    obtain ⟨s1, t, hn2, hA⟩ := hph
    have hA2 : GoR me t e er bb it := hA
    obtain ⟨h1, h2, h3⟩ := hla
    exact ⟨by rw [s1]; decide, fun _ => ⟨t, hn2, fun _ _ _ g _ => absurd hA2.st g⟩, hjk, .inr (go_picked hP hme hn hM hx hr h1 d0 hp (by omega))⟩
  case yld bb since y =>
    obtain ⟨s2, _⟩ := hph
    obtain ⟨h1, h2, h3, h4⟩ := hla
    exact ⟨by rw [s2]; decide, fun g => (by rw [s2] at g; cases g), hjk, .inr (yld_picked hP hme hM hx hr h1 d0 hp h3)⟩
  case pause p =>
    obtain ⟨s3, hpp⟩ := hph
    obtain ⟨h1, h2, h3, h4⟩ := hla
    have n1 : ¬ x.state = 1 := by rw [s3]; decide
    have n2 : ¬ x.state = 2 := by rw [s3]; decide
    refine ⟨by rw [s3]; decide, fun g => absurd g n1, hjk, .inl ⟨by unfold thrNext; rw [if_neg n1, if_neg n2], fun _ => by omega, ?_, ?_⟩⟩
    · obtain ⟨ph, job, res⟩ := a
      simp only at hp
      subst hp
      unfold thrRest
      rw [if_pos s3, hpp]
      by_cases c : p = 1
      · rw [if_pos c]
        have := again_rt (x := { x with pauses := 0 }) (me := me) (job := job) (res := res) hP hx.me hx.s hx.jobs hx.job hx.res hj
        rw [if_neg (by have : job < P.K me := h1; omega)] at this
        simp only [stepT, if_pos c]
        exact ⟨trivial, this.1⟩
      · rw [if_neg c]
        simp only [stepT, if_neg c]
        exact ⟨trivial, hx.me, hx.s, hx.jobs, hx.job, hx.res, hx.rd, s3, rfl⟩
    · unfold thrRest
      rw [if_pos s3]
      split
      · exact (again_rt (x := { x with pauses := 0 }) (me := me) (job := a.job) (res := a.res) hP hx.me hx.s hx.jobs hx.job hx.res hj).2.1
      · rfl
  case fin =>
    have s6 : x.state = 6 := hph
    have n1 : ¬ x.state = 1 := by rw [s6]; decide
    have n2 : ¬ x.state = 2 := by rw [s6]; decide
    have n3 : ¬ x.state = 3 := by rw [s6]; decide
    have es : ∀ p, stepT P me m a p = (m, a) := fun p => by unfold stepT; rw [hp]
    refine ⟨by rw [s6]; decide, fun g => absurd g n1, hjk, .inl ⟨by unfold thrNext; rw [if_neg n1, if_neg n2], fun g => absurd g n3, ?_, ?_⟩⟩
    · rw [es]; unfold thrRest; rw [if_neg n3]; exact ⟨rfl, hx⟩
    · unfold thrRest; rw [if_neg n3]
end

theorem RT.st4 {P : Pr} {i : Nat} {x : ThrS} {a : AT} (h : RT P i x a) : x.state ≠ 4 := by
  have := h.ph
  cases hp : a.ph <;> rw [hp] at this <;> simp only [RPh] at this <;> omega
theorem RT.fin {P : Pr} {i : Nat} {x : ThrS} {a : AT} (h : RT P i x a) (hf : a.ph = .fin) : x.state = 6 := by
  have := h.ph
  rw [hf] at this
  exact this
theorem RT.fin_of {P : Pr} {i : Nat} {x : ThrS} {a : AT} (h : RT P i x a) (hf : x.state = 6) : a.ph = .fin := by
  have := h.ph
  cases hp : a.ph <;> rw [hp] at this <;> simp only [RPh] at this <;> (try omega)
/-- how it begins -/
abbrev iniT (P : Pr) (i : Nat) : AT := ⟨if 0 = P.K i then .fin else .coming, 0, []⟩
abbrev iniM (P : Pr) : AM := ⟨zeroLock, 0, P.start, 0, 0⟩
theorem ini_lo {P : Pr} {i : Nat} {o : Ph} (hi : i < 2) : LoP P (iniM P) i 0 o (iniT P i).ph := by
  have e : (iniM P).e i = 0 := by unfold AM.e; split <;> rfl
  by_cases c : 0 = P.K i
  · simp only [if_pos c]; exact ⟨c, e⟩
  · simp only [if_neg c]; exact ⟨by omega, e⟩
theorem ini_ph {P : Pr} {i : Nat} : in5 (iniT P i).ph = 0 ∧ wrote (P.k i) 0 (iniT P i).ph = 0 := by
  by_cases c : 0 = P.K i
  · simp only [if_pos c]; exact ⟨rfl, rfl⟩
  · simp only [if_neg c]; exact ⟨rfl, rfl⟩
theorem ini_inv {P : Pr} (hP : PrOk P) : Inv P (iniM P) 0 1 (iniT P 0) (iniT P 1) := by
  have h := hP.start
  refine ⟨⟨Int.le_refl _, h.1, Int.le_refl _, h.2, Int.le_refl _, fun _ => rfl, fun e => (by cases e), ?_⟩, ini_lo (by decide), ini_lo (by decide), ⟨rfl, fun i r e => (by cases e)⟩, ⟨rfl, fun i r e => (by cases e)⟩, ?_⟩
  · rw [ini_ph.1, ini_ph.1]; show (0 : Int) + 0 + 0 ≤ P.start - P.start; omega
  · have h1 := (ini_ph (P := P) (i := 0)).2
    have h2 := (ini_ph (P := P) (i := 1)).2
    show (doneN (P.k 0) [] : Int) + doneN (P.k 1) [] + wrote (P.k 0) 0 (iniT P 0).ph + wrote (P.k 1) 0 (iniT P 1).ph = 0
    rw [h1, h2]
    simp [doneN]

/-! ### what is found in the end -/
theorem end_of {P : Pr} {m : AM} {a b : AT} (h : Inv P m 0 1 a b) (ha : a.ph = .fin) (hb : b.ph = .fin) :
    a.res.length = P.K 0 ∧ b.res.length = P.K 1 ∧ (doneN (P.k 0) a.res : Int) + doneN (P.k 1) b.res = m.W ∧ m.W ≤ m.T - P.start ∧ m.T ≤ TM := by
  have h1 := h.la
  have h2 := h.lb
  have h3 := h.count
  have h4 := h.g.sum
  rw [ha] at h1 h3 h4
  rw [hb] at h2 h3 h4
  have h1 : a.job = P.K 0 := h1.1
  have h2 : b.job = P.K 1 := h2.1
  refine ⟨by rw [h.ra.len, h1], by rw [h.rb.len, h2], ?_, ?_, h.g.t1⟩
  · simp only [wrote] at h3; omega
  · simp only [in5] at h4; omega

/-- awake's run -/
abbrev awP : Pr := ⟨6, 0, 0, fun i => if i = 0 then 1 else 0, false, 1⟩
theorem awP_ok : PrOk awP := ⟨by decide, by decide, by decide, by decide, by decide, by decide⟩
def arun : Nat → AM × AT × Nat
  | 0 => (iniM awP, iniT awP 0, 0)
  | n + 1 => let r := arun n; ((stepT awP 0 r.1 r.2.1 0).1, (stepT awP 0 r.1 r.2.1 0).2, r.2.2 + isGo r.2.1.ph)
def drawless : Ph → Bool
  | .yld _ _ _ => false
  | .go e _ _ _ => decide (e ≠ 5)
  | _ => true
theorem drawless_eq {P : Pr} {me : Nat} {m : AM} {a : AT} (h : drawless a.ph = true) (p : Int) : stepT P me m a p = stepT P me m a 0 := by
  obtain ⟨ph, job, res⟩ := a
  cases ph <;> try rfl
  case go e er b it =>
    simp only [drawless, ne_eq, decide_eq_true_eq] at h
    simp only [stepT, ended, if_neg h]
  case yld => cases h
theorem arun_drawless : ∀ n, n < 40 → drawless (arun n).2.1.ph = true := by decide +kernel
theorem arun_end : (arun 40).2.1.ph = .fin ∧ (arun 40).2.1.res = [(2, 0, 1)] ∧ (arun 40).1.W = 1 ∧ (arun 40).2.2 = 1 := ⟨by rfl, by rfl, by rfl, by rfl⟩
end Go.Proofs.YtoealglbimbbmaaGreatDoor.S
