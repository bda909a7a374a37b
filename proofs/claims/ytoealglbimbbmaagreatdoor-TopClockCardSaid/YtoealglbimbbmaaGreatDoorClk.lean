/-
  TOPCLOCK'S PLAIN LAW: two threads at one word, a clock near its end; what stays, what falls.
-/
import Derived.Test.YtoealglbimbbmaaGreatDoorMac
namespace Go.Proofs.YtoealglbimbbmaaGreatDoor.S
open Go Go.Proofs
set_option linter.unusedVariables false
set_option linter.unusedSimpArgs false
/-! ## TopClock's plain law: two threads at one word, a clock near its end. The machine without the program. -/
abbrev TM : Int := 4611686018427387903

/-- where a thread is -/
inductive Ph
  | coming | asking | marking (st : Int)
  | f0 (st q : Int) | f1 (st q v : Int) | f2 (st q v w : Int) | ext (st : Int)
  | c0 (st v w q : Int) | c1 (st v w q V : Int) | c2 (st v w V : Int) | c3 (st v w V now : Int)
  | c5 (w V now : Int) | c6 (w V now : Int) | c7 (V e er : Int)
  | go (e er b it : Int) | yld (b since : Int) (y : Bool) | pause (p : Int) | fin

structure AT where
  ph : Ph
  job : Nat
  res : List (Int × Int × Int)
structure AM where
  lk : TLock
  W : Int
  T : Int
  e0 : Int
  e1 : Int
structure Pr where
  c : Int
  sp : Int
  start : Int
  k : Nat → Nat
  rd : Bool
  n : Nat
abbrev Pr.K (P : Pr) (i : Nat) : Nat := P.k i + (if P.rd then 1 else 0)

def AM.e (m : AM) (i : Nat) : Int := if i = 0 then m.e0 else m.e1
def AM.setE (m : AM) (i : Nat) (x : Int) : AM := if i = 0 then { m with e0 := x } else { m with e1 := x }

def pausing (p : Int) : Ph := if p = 0 then .coming else .pause p
def waitsF (me : Nat) (st q : Int) (o : Int) : Ph := if o > me then .f0 st q else if 0 ≤ q - 1 then .f0 st (q - 1) else .go 5 0 o 0
def found (me : Nat) (st q : Int) (lk : TLock) : Ph := if lk.held = true then waitsF me st q lk.owner else if st < lk.version then .ext st else .f1 st q lk.version
def ended (P : Pr) (me : Nat) (a : AT) (e er b it p : Int) : AT :=
  if e = 5 then (if 0 ≤ b ∧ b < P.n then { a with ph := .yld b 0 false } else { a with ph := pausing p })
  else ⟨if a.job + 1 = P.K me then .fin else .coming, a.job + 1, a.res ++ [(e, er, it)]⟩

def stepT (P : Pr) (me : Nat) (m : AM) (a : AT) (p : Int) : AM × AT := match a.ph with
  | .coming => (m.setE me 1, { a with ph := .asking })
  | .asking => (m, { a with ph := .marking m.T })
  | .marking st => (m.setE me (st + 1), { a with ph := .f0 st P.sp })
  | .f0 st q => (m, { a with ph := found me st q m.lk })
  | .f1 st q v => (m, { a with ph := .f2 st q v m.W })
  | .f2 st q v w => (m, { a with ph := if m.lk = ⟨v, false, 0⟩ then (if a.job = P.k me then .go 2 0 (-1) w else .c0 st v w P.sp) else found me st q m.lk })
  | .ext st => (m, { a with ph := .f0 m.T P.sp })
  | .c0 st v w q => (m, { a with ph := if m.lk.held = true then (if m.lk.owner > me then .c0 st v w q else if 0 ≤ q - 1 then .c0 st v w (q - 1) else .go 5 0 m.lk.owner 0) else .c1 st v w q m.lk.version })
  | .c1 st v w q V => if m.lk = ⟨V, false, 0⟩ then ({ m with lk := ⟨V, true, me⟩ }, { a with ph := .c2 st v w V }) else (m, { a with ph := .c0 st v w q })
  | .c2 st v w V => (m, { a with ph := if TM ≤ m.T then .c7 V 4 7 else .c3 st v w V m.T })
  | .c3 st v w V now => if m.T = now then ({ m with T := now + 1 }, { a with ph := if now = st ∨ V = v then .c5 w V now else .c7 V 5 0 }) else (m, { a with ph := .c2 st v w V })
  | .c5 w V now => ({ m with W := w + 1 }, { a with ph := .c6 w V now })
  | .c6 w V now => ({ m with lk := ⟨now + 1, false, 0⟩ }, { a with ph := .go 2 0 (-1) (w + 1) })
  | .c7 V e er => ({ m with lk := ⟨V, false, 0⟩ }, { a with ph := .go e er (-1) 0 })
  | .go e er b it => (m.setE me 0, ended P me a e er b it p)
  | .yld b since y => (m, { a with ph := if m.e b.toNat ≠ 0 ∧ (y = false ∨ m.e b.toNat = since) then .yld b (m.e b.toNat) true else pausing p })
  | .pause p' => (m, { a with ph := if p' = 1 then .coming else .pause (p' - 1) })
  | .fin => (m, a)

/-! ### what stays -/
def after (st : Int) : Ph → Prop
  | .c5 _ _ now => st < now + 1
  | .c6 _ _ now => st < now + 1
  | _ => True
def dirty : Ph → Bool
  | .c6 _ _ _ => true
  | _ => false
def hold : Ph → Bool
  | .c2 _ _ _ _ => true | .c3 _ _ _ _ _ => true | .c5 _ _ _ => true | .c6 _ _ _ => true | .c7 _ _ _ => true
  | _ => false
def in5 : Ph → Int
  | .c5 _ _ _ => 1
  | _ => 0
/-- written, and not among the results yet -/
def wrote (k : Nat) (job : Nat) : Ph → Int
  | .c6 _ _ _ => 1
  | .go e _ _ _ => if e = 2 ∧ job < k then 1 else 0
  | _ => 0

def LoP (P : Pr) (m : AM) (me job : Nat) (o : Ph) : Ph → Prop
  | .coming => job < P.K me ∧ m.e me = 0
  | .asking => job < P.K me ∧ m.e me = 1
  | .marking st => job < P.K me ∧ m.e me = 1 ∧ 0 ≤ st ∧ st ≤ m.T
  | .f0 st q => job < P.K me ∧ 1 ≤ m.e me ∧ 0 ≤ st ∧ st ≤ m.T ∧ 0 ≤ q ∧ q ≤ 4
  | .f1 st q v => job < P.K me ∧ 1 ≤ m.e me ∧ 0 ≤ st ∧ st ≤ m.T ∧ 0 ≤ q ∧ q ≤ 4 ∧ 0 ≤ v ∧ v ≤ st ∧ (m.lk.version = v ∨ st < m.lk.version) ∧ after st o
  | .f2 st q v w => job < P.K me ∧ 1 ≤ m.e me ∧ 0 ≤ st ∧ st ≤ m.T ∧ 0 ≤ q ∧ q ≤ 4 ∧ 0 ≤ v ∧ v ≤ st ∧ (m.lk.version = v ∨ st < m.lk.version) ∧ after st o ∧ 0 ≤ w ∧ (m.lk.version = v → dirty o = false → m.W = w)
  | .ext st => job < P.K me ∧ 1 ≤ m.e me ∧ 0 ≤ st ∧ st ≤ m.T
  | .c0 st v w q => job < P.k me ∧ 1 ≤ m.e me ∧ 0 ≤ st ∧ st ≤ m.T ∧ 0 ≤ q ∧ q ≤ 4 ∧ 0 ≤ v ∧ v ≤ st ∧ (m.lk.version = v ∨ st < m.lk.version) ∧ after st o ∧ (0 ≤ w ∧ w < 9) ∧ (m.lk.version = v → dirty o = false → m.W = w)
  | .c1 st v w q V => job < P.k me ∧ 1 ≤ m.e me ∧ 0 ≤ st ∧ st ≤ m.T ∧ 0 ≤ q ∧ q ≤ 4 ∧ 0 ≤ v ∧ v ≤ st ∧ (m.lk.version = v ∨ st < m.lk.version) ∧ after st o ∧ (0 ≤ w ∧ w < 9) ∧ (m.lk.version = v → dirty o = false → m.W = w) ∧ V ≤ m.T
  | .c2 st v w V => job < P.k me ∧ 1 ≤ m.e me ∧ 0 ≤ st ∧ st ≤ m.T ∧ 0 ≤ v ∧ v ≤ st ∧ (V = v ∨ st < V) ∧ (0 ≤ w ∧ w < 9) ∧ (V = v → m.W = w) ∧ m.lk = ⟨V, true, me⟩
  | .c3 st v w V now => job < P.k me ∧ 1 ≤ m.e me ∧ 0 ≤ st ∧ st ≤ m.T ∧ 0 ≤ v ∧ v ≤ st ∧ (V = v ∨ st < V) ∧ (0 ≤ w ∧ w < 9) ∧ (V = v → m.W = w) ∧ m.lk = ⟨V, true, me⟩ ∧ now = m.T ∧ now < TM
  | .c5 w V now => job < P.k me ∧ 1 ≤ m.e me ∧ (0 ≤ w ∧ w < 9) ∧ m.W = w ∧ m.lk = ⟨V, true, me⟩ ∧ m.T = now + 1 ∧ V ≤ now
  | .c6 w V now => job < P.k me ∧ 1 ≤ m.e me ∧ (0 ≤ w ∧ w < 9) ∧ m.W = w + 1 ∧ m.lk = ⟨V, true, me⟩ ∧ m.T = now + 1 ∧ V ≤ now
  | .c7 V e er => job < P.k me ∧ 1 ≤ m.e me ∧ m.lk = ⟨V, true, me⟩ ∧ ((e = 5 ∧ er = 0) ∨ (e = 4 ∧ er = 7 ∧ m.T = TM))
  | .go e er b it => job < P.K me ∧ 1 ≤ m.e me ∧ ((e = 2 ∧ 0 ≤ it ∧ it < 10) ∨ (e = 5 ∧ (b = -1 ∨ (b = 0 ∧ me = 1))) ∨ (e = 4 ∧ er = 7 ∧ m.T = TM ∧ job < P.k me))
  | .yld b since y => job < P.K me ∧ m.e me = 0 ∧ b = 0 ∧ me = 1
  | .pause p => job < P.K me ∧ m.e me = 0 ∧ 1 ≤ p ∧ p ≤ 8
  | .fin => job = P.K me ∧ m.e me = 0

def doneN (k : Nat) (l : List (Int × Int × Int)) : Nat := (l.take k).countP fun r => decide (r.1 = 2)
structure ResOk (P : Pr) (T : Int) (me : Nat) (a : AT) : Prop where
  len : a.res.length = a.job
  is : ∀ i r, a.res[i]? = some r → r.1 = 2 ∨ (r.1 = 4 ∧ r.2.1 = 7 ∧ T = TM ∧ i < P.k me)

/-- a thread, and the other one -/
structure Glob (P : Pr) (m : AM) (me ot : Nat) (p q : Ph) : Prop where
  v0 : 0 ≤ m.lk.version
  v1 : m.lk.version ≤ m.T
  t0 : P.start ≤ m.T
  t1 : m.T ≤ TM
  w0 : 0 ≤ m.W
  free : m.lk.held = false → m.lk.owner = 0
  heldBy : m.lk.held = true → (m.lk.owner = me ∧ hold p = true) ∨ (m.lk.owner = ot ∧ hold q = true)
  sum : m.W + in5 p + in5 q ≤ m.T - P.start

structure PrOk (P : Pr) : Prop where
  sp : 0 ≤ P.sp ∧ P.sp ≤ 4
  start : 0 ≤ P.start ∧ P.start ≤ TM
  few : TM - P.start ≤ 8 ∨ P.k 0 + P.k 1 ≤ 8
  n : P.n = 1 ∨ P.n = 2
  c : 6 ≤ P.c ∧ P.c ≤ 15
  jobs : P.k 0 ≤ 6 ∧ P.k 1 ≤ 6

structure Inv (P : Pr) (m : AM) (me ot : Nat) (a b : AT) : Prop where
  g : Glob P m me ot a.ph b.ph
  la : LoP P m me a.job b.ph a.ph
  lb : LoP P m ot b.job a.ph b.ph
  ra : ResOk P m.T me a
  rb : ResOk P m.T ot b
  count : doneN (P.k me) a.res + doneN (P.k ot) b.res + wrote (P.k me) a.job a.ph + wrote (P.k ot) b.job b.ph = m.W

theorem Inv.swap {P : Pr} {m : AM} {me ot : Nat} {a b : AT} (h : Inv P m me ot a b) : Inv P m ot me b a :=
  ⟨⟨h.g.v0, h.g.v1, h.g.t0, h.g.t1, h.g.w0, h.g.free, fun e => (h.g.heldBy e).symm, by have := h.g.sum; omega⟩, h.lb, h.la, h.rb, h.ra, by have := h.count; omega⟩

/-! ### what falls -/
def big (m : AM) (me : Nat) : Int := if m.lk.held = true ∧ m.lk.owner = 0 ∧ me = 1 then 100 else 0
def lam (P : Pr) (m : AM) (me : Nat) (a : AT) : Int := match a.ph with
  | .coming => 47 + big m me
  | .asking => 46 + big m me
  | .marking _ => 45 + big m me
  | .f0 st q => (if m.lk.version ≤ st then 16 else 28) + q + big m me
  | .f1 st q v => (if m.lk = ⟨v, false, 0⟩ then 15 else 40 + q) + big m me
  | .f2 st q v w => (if m.lk = ⟨v, false, 0⟩ then 14 else 34 + q) + big m me
  | .ext _ => 21 + big m me
  | .c0 _ _ _ q => 2 + q + big m me
  | .c1 _ _ _ q V => (if m.lk = ⟨V, false, 0⟩ then 1 else 8 + q) + big m me
  | .c2 _ _ _ _ => 65
  | .c3 _ _ _ _ _ => 64
  | .c5 _ _ _ => 63
  | .c6 _ _ _ => 62
  | .c7 _ _ _ => 61
  | .go e _ b _ => if e = 2 ∧ a.job = P.k me then 1 else if e = 5 ∧ 0 ≤ b then 60 else 60 + big m me
  | .yld _ since y => if y = true then (if since = m.e0 then 57 else 57 + big m me) else 58
  | .pause p => 47 + p + big m me
  | .fin => 0
section
variable {P : Pr} {m : AM} {me job : Nat} {res : List (Int × Int × Int)} {st q v w V e er b it now p : Int} {y : Bool}
theorem lam_coming : lam P m me ⟨.coming, job, res⟩ = 47 + big m me := rfl
theorem lam_asking : lam P m me ⟨.asking, job, res⟩ = 46 + big m me := rfl
theorem lam_marking : lam P m me ⟨.marking st, job, res⟩ = 45 + big m me := rfl
theorem lam_f0 : lam P m me ⟨.f0 st q, job, res⟩ = (if m.lk.version ≤ st then 16 else 28) + q + big m me := rfl
theorem lam_f1 : lam P m me ⟨.f1 st q v, job, res⟩ = (if m.lk = ⟨v, false, 0⟩ then 15 else 40 + q) + big m me := rfl
theorem lam_f2 : lam P m me ⟨.f2 st q v w, job, res⟩ = (if m.lk = ⟨v, false, 0⟩ then 14 else 34 + q) + big m me := rfl
theorem lam_ext : lam P m me ⟨.ext st, job, res⟩ = 21 + big m me := rfl
theorem lam_c0 : lam P m me ⟨.c0 st v w q, job, res⟩ = 2 + q + big m me := rfl
theorem lam_c1 : lam P m me ⟨.c1 st v w q V, job, res⟩ = (if m.lk = ⟨V, false, 0⟩ then 1 else 8 + q) + big m me := rfl
theorem lam_c2 : lam P m me ⟨.c2 st v w V, job, res⟩ = 65 := rfl
theorem lam_c3 : lam P m me ⟨.c3 st v w V now, job, res⟩ = 64 := rfl
theorem lam_c5 : lam P m me ⟨.c5 w V now, job, res⟩ = 63 := rfl
theorem lam_c6 : lam P m me ⟨.c6 w V now, job, res⟩ = 62 := rfl
theorem lam_c7 : lam P m me ⟨.c7 V e er, job, res⟩ = 61 := rfl
theorem lam_go : lam P m me ⟨.go e er b it, job, res⟩ = if e = 2 ∧ job = P.k me then 1 else if e = 5 ∧ 0 ≤ b then 60 else 60 + big m me := rfl
theorem lam_go5 (h : e = 5) (hb : 0 ≤ b) : lam P m me ⟨.go e er b it, job, res⟩ = 60 := by rw [lam_go, if_neg (by omega), if_pos ⟨h, hb⟩]
theorem lam_go2 (h : e = 2) (hj : job = P.k me) : lam P m me ⟨.go e er b it, job, res⟩ = 1 := by rw [lam_go, if_pos ⟨h, hj⟩]
theorem lam_goN (h : ¬ (e = 2 ∧ job = P.k me)) (h2 : ¬ (e = 5 ∧ 0 ≤ b)) : lam P m me ⟨.go e er b it, job, res⟩ = 60 + big m me := by rw [lam_go, if_neg h, if_neg h2]
theorem lam_yld : lam P m me ⟨.yld b st y, job, res⟩ = if y = true then (if st = m.e0 then 57 else 57 + big m me) else 58 := rfl
theorem lam_pause : lam P m me ⟨.pause p, job, res⟩ = 47 + p + big m me := rfl
theorem lam_fin : lam P m me ⟨.fin, job, res⟩ = 0 := rfl
end
def stale (V : Int) : Ph → Int
  | .c0 _ v _ _ => if v = V then 0 else 1
  | .c1 _ v _ _ _ => if v = V then 0 else 1
  | .c2 _ v _ _ => if v = V then 0 else 1
  | .c3 _ v _ _ _ => if v = V then 0 else 1
  | .c7 _ e _ => if e = 5 then 1 else 0
  | _ => 0
def left (k : Nat) (job : Nat) : Ph → Int
  | .go e _ _ _ => if e ≠ 5 ∧ job < k then ((k - job : Nat) : Int) - 1 else ((k - job : Nat) : Int)
  | _ => ((k - job : Nat) : Int)
theorem left_go {k job : Nat} {e er b it : Int} : left k job (.go e er b it) = if e ≠ 5 ∧ job < k then ((k - job : Nat) : Int) - 1 else ((k - job : Nat) : Int) := rfl
theorem left_5 {k job : Nat} {e er b it : Int} (h : e = 5) : left k job (.go e er b it) = ((k - job : Nat) : Int) := if_neg (fun g => g.1 h)
theorem left_ge {k job : Nat} {e er b it : Int} (h : k ≤ job) : left k job (.go e er b it) = ((k - job : Nat) : Int) := if_neg (by omega)
theorem left_lt {k job : Nat} {e er b it : Int} (h : e ≠ 5) (h2 : job < k) : left k job (.go e er b it) = ((k - job : Nat) : Int) - 1 := if_pos ⟨h, h2⟩
theorem free_lk {P : Pr} {m : AM} {me ot : Nat} {p q : Ph} (h : Glob P m me ot p q) (c : ¬ m.lk.held = true) : m.lk = ⟨m.lk.version, false, 0⟩ := by
  have h1 : m.lk.held = false := by simpa using c
  have h2 := h.free h1
  cases hl : m.lk with
  | mk v hd o => rw [hl] at h1 h2; simp only at h1 h2; rw [h1, h2]
def mu (P : Pr) (m : AM) (me ot : Nat) (a b : AT) : Int :=
  400 * (2 * (2 * (left (P.k me) a.job a.ph + left (P.k ot) b.job b.ph) + stale m.lk.version a.ph + stale m.lk.version b.ph) + (if m.lk.held = true then 0 else 1)) + lam P m me a + lam P m ot b

/-! ### a step -/
abbrev Pair (me ot : Nat) : Prop := (me = 0 ∧ ot = 1) ∨ (me = 1 ∧ ot = 0)

theorem doneN_snoc_lt {k : Nat} {l : List (Int × Int × Int)} {r : Int × Int × Int} (h : l.length < k) : doneN k (l ++ [r]) = doneN k l + (if r.1 = 2 then 1 else 0) := by
  unfold doneN
  rw [List.take_of_length_le (by simp; omega), List.take_of_length_le (by omega), List.countP_append]
  by_cases h2 : r.1 = 2 <;> simp [h2]
theorem doneN_snoc_ge {k : Nat} {l : List (Int × Int × Int)} {r : Int × Int × Int} (h : k ≤ l.length) : doneN k (l ++ [r]) = doneN k l := by
  unfold doneN
  rw [List.take_append_of_le_length h]
theorem doneN_le (k : Nat) (l : List (Int × Int × Int)) : doneN k l ≤ k ∧ doneN k l ≤ l.length := by
  unfold doneN
  have := List.countP_le_length (p := fun r : Int × Int × Int => decide (r.1 = 2)) (l := l.take k)
  simp only [List.length_take] at this
  omega

/-- what another thread knows of the word, when the memory turns -/
theorem Lo_ot {P : Pr} {m m' : AM} {ot job : Nat} {p p' q : Ph} (h : LoP P m ot job p q) (he : m'.e ot = m.e ot) (hT : m.T ≤ m'.T)
    (hTM : m'.T ≤ TM) (ha : ∀ st, st ≤ m.T → after st p → after st p') 
    (hh : hold q = true → m'.lk = m.lk ∧ m'.W = m.W ∧ m'.T = m.T)
    (hv : m'.lk.version = m.lk.version ∨ (m.T ≤ m'.lk.version ∧ ∀ st, after st p → st < m'.lk.version))
    (hw : m'.lk.version = m.lk.version → dirty p' = false → dirty p = false ∧ m'.W = m.W) : LoP P m' ot job p' q := by
  cases q <;> simp only [LoP, he] at h ⊢
  case coming => exact h
  case asking => exact h
  case marking => omega
  case f0 => omega
  case ext => omega
  case yld => exact h
  case pause => exact h
  case fin => exact h
  case f1 => 
    obtain ⟨h1, h2, h3, h4, h5, h6, h7, h8, h9, h10⟩ := h
    have := ha _ h4 h10
    refine ⟨h1, h2, h3, by omega, h5, h6, h7, h8, ?_, this⟩
    rcases hv with hv | ⟨hv, hv2⟩
    · rw [hv]; exact h9
    · exact .inr (hv2 _ h10)
  case f2 => 
    obtain ⟨h1, h2, h3, h4, h5, h6, h7, h8, h9, h10, h11, h12⟩ := h
    have := ha _ h4 h10
    refine ⟨h1, h2, h3, by omega, h5, h6, h7, h8, ?_, this, h11, fun e1 e2 => ?_⟩
    · rcases hv with hv | ⟨hv, hv2⟩
      · rw [hv]; exact h9
      · exact .inr (hv2 _ h10)
    · rcases hv with hv | ⟨hv, hv2⟩
      · obtain ⟨g1, g2⟩ := hw hv e2
        rw [g2]; exact h12 (by rw [← hv]; exact e1) g1
      · have := hv2 _ h10; omega
  case c0 => 
    obtain ⟨h1, h2, h3, h4, h5, h6, h7, h8, h9, h10, h11, h12⟩ := h
    have := ha _ h4 h10
    refine ⟨h1, h2, h3, by omega, h5, h6, h7, h8, ?_, this, h11, fun e1 e2 => ?_⟩
    · rcases hv with hv | ⟨hv, hv2⟩
      · rw [hv]; exact h9
      · exact .inr (hv2 _ h10)
    · rcases hv with hv | ⟨hv, hv2⟩
      · obtain ⟨g1, g2⟩ := hw hv e2
        rw [g2]; exact h12 (by rw [← hv]; exact e1) g1
      · have := hv2 _ h10; omega
  case c1 => 
    obtain ⟨h1, h2, h3, h4, h5, h6, h7, h8, h9, h10, h11, h12, h13⟩ := h
    have := ha _ h4 h10
    refine ⟨h1, h2, h3, by omega, h5, h6, h7, h8, ?_, this, h11, fun e1 e2 => ?_, by omega⟩
    · rcases hv with hv | ⟨hv, hv2⟩
      · rw [hv]; exact h9
      · exact .inr (hv2 _ h10)
    · rcases hv with hv | ⟨hv, hv2⟩
      · obtain ⟨g1, g2⟩ := hw hv e2
        rw [g2]; exact h12 (by rw [← hv]; exact e1) g1
      · have := hv2 _ h10; omega
  case c2 => obtain ⟨g1, g2, g3⟩ := hh rfl; rw [g1, g2, g3]; exact h
  case c3 => obtain ⟨g1, g2, g3⟩ := hh rfl; rw [g1, g2, g3]; exact h
  case c5 => obtain ⟨g1, g2, g3⟩ := hh rfl; rw [g1, g2, g3]; exact h
  case c6 => obtain ⟨g1, g2, g3⟩ := hh rfl; rw [g1, g2, g3]; exact h
  case c7 => obtain ⟨g1, g2, g3⟩ := hh rfl; rw [g1, g3]; exact h
  case go =>
    obtain ⟨h1, h2, h3⟩ := h
    refine ⟨h1, h2, ?_⟩
    rcases h3 with h3 | h3 | ⟨h3, h4, h5, h6⟩
    · exact .inl h3
    · exact .inr (.inl h3)
    · exact .inr (.inr ⟨h3, h4, by omega, h6⟩)


theorem Inv.keep {P : Pr} {m m' : AM} {me ot : Nat} {a b : AT} {p' : Ph} (h : Inv P m me ot a b) (e1 : m'.lk = m.lk) (e2 : m'.W = m.W) (e3 : m'.T = m.T) (e4 : m'.e ot = m.e ot)
    (f1 : hold p' = hold a.ph) (f2 : in5 p' = in5 a.ph) (f3 : wrote (P.k me) a.job p' = wrote (P.k me) a.job a.ph) (f4 : dirty p' = dirty a.ph) (f5 : ∀ st, st ≤ m.T → after st a.ph → after st p')
    (hl : LoP P m' me a.job b.ph p') : Inv P m' me ot { a with ph := p' } b where
  g := ⟨by rw [e1]; exact h.g.v0, by rw [e1, e3]; exact h.g.v1, by rw [e3]; exact h.g.t0, by rw [e3]; exact h.g.t1, by rw [e2]; exact h.g.w0, by rw [e1]; exact h.g.free,
    by rw [e1]; simp only [f1]; exact h.g.heldBy, by rw [e2, e3]; simp only [f2]; exact h.g.sum⟩
  la := hl
  lb := Lo_ot h.lb e4 (by omega) (by rw [e3]; exact h.g.t1) f5 (fun _ => ⟨e1, e2, e3⟩) (.inl (by rw [e1])) (fun _ g => ⟨by rw [← f4]; exact g, e2⟩)
  ra := ⟨h.ra.len, by rw [e3]; exact h.ra.is⟩
  rb := ⟨h.rb.len, by rw [e3]; exact h.rb.is⟩
  count := by rw [e2]; simp only [f3]; exact h.count

theorem setE_ot {m : AM} {me ot : Nat} {x : Int} (ho : Pair me ot) : (m.setE me x).e ot = m.e ot := by
  rcases ho with ⟨rfl, rfl⟩ | ⟨rfl, rfl⟩ <;> rfl
theorem setE_me {m : AM} {me ot : Nat} {x : Int} (ho : Pair me ot) : (m.setE me x).e me = x := by
  rcases ho with ⟨rfl, rfl⟩ | ⟨rfl, rfl⟩ <;> rfl
theorem setE_lk {m : AM} {me : Nat} {x : Int} : (m.setE me x).lk = m.lk ∧ (m.setE me x).W = m.W ∧ (m.setE me x).T = m.T := by
  unfold AM.setE; split <;> exact ⟨rfl, rfl, rfl⟩
theorem K_le {P : Pr} {me : Nat} : P.k me ≤ P.K me ∧ P.K me ≤ P.k me + 1 := by unfold Pr.K; split <;> omega

/-- while one holds the lock nobody else does -/
theorem holder_is {P : Pr} {m : AM} {me ot job : Nat} {o q : Ph} (h : LoP P m ot job o q) (hq : hold q = true) : m.lk.held = true ∧ m.lk.owner = ot := by
  cases q <;> simp only [hold, Bool.false_eq_true] at hq <;> simp only [LoP] at h
  · obtain ⟨_, _, _, _, _, _, _, _, _, e⟩ := h; rw [e]; exact ⟨rfl, rfl⟩
  · obtain ⟨_, _, _, _, _, _, _, _, _, e, _⟩ := h; rw [e]; exact ⟨rfl, rfl⟩
  · obtain ⟨_, _, _, _, e, _⟩ := h; rw [e]; exact ⟨rfl, rfl⟩
  · obtain ⟨_, _, _, _, e, _⟩ := h; rw [e]; exact ⟨rfl, rfl⟩
  · obtain ⟨_, _, e, _⟩ := h; rw [e]; exact ⟨rfl, rfl⟩

/-- what is found at the lock -/
theorem found_lo {P : Pr} {m : AM} {me ot : Nat} {a b : AT} {st q : Int} (ho : Pair me ot) (h : Inv P m me ot a b) (hp : hold a.ph = false) (hj : a.job < P.K me) (he : 1 ≤ m.e me) (h0 : 0 ≤ st) (h1 : st ≤ m.T) (q0 : 0 ≤ q) (q1 : q ≤ 4) :
    LoP P m me a.job b.ph (found me st q m.lk) ∧ hold (found me st q m.lk) = false ∧ in5 (found me st q m.lk) = 0 ∧ wrote (P.k me) a.job (found me st q m.lk) = 0 ∧ dirty (found me st q m.lk) = false ∧ ∀ st', after st' (found me st q m.lk) := by
  unfold found
  by_cases c : m.lk.held = true
  · rw [if_pos c]
    have hb := h.g.heldBy c
    rw [hp] at hb
    have hb : m.lk.owner = ot := by rcases hb with ⟨_, e⟩ | ⟨e, _⟩; cases e; exact e
    unfold waitsF
    by_cases c2 : m.lk.owner > me
    · rw [if_pos c2]; exact ⟨by simp only [LoP]; omega, rfl, rfl, rfl, rfl, fun _ => trivial⟩
    · rw [if_neg c2]
      by_cases c3 : 0 ≤ q - 1
      · rw [if_pos c3]; exact ⟨by simp only [LoP]; omega, rfl, rfl, rfl, rfl, fun _ => trivial⟩
      · rw [if_neg c3]
        refine ⟨⟨hj, he, .inr (.inl ⟨rfl, .inr (by omega)⟩)⟩, rfl, rfl, ?_, rfl, fun _ => trivial⟩
        simp [wrote]
  · rw [if_neg c]
    by_cases c2 : st < m.lk.version
    · rw [if_pos c2]; exact ⟨by simp only [LoP]; omega, rfl, rfl, rfl, rfl, fun _ => trivial⟩
    · rw [if_neg c2]
      refine ⟨?_, rfl, rfl, rfl, rfl, fun _ => trivial⟩
      refine ⟨hj, he, h0, h1, q0, q1, h.g.v0, by omega, .inl rfl, ?_⟩
      cases hb : b.ph <;> simp only [after] <;> (have := h.lb; rw [hb] at this; have := (holder_is (me := me) this rfl).1; contradiction)

theorem pausing_lo {P : Pr} {m : AM} {me job : Nat} {o : Ph} {p : Int} (hj : job < P.K me) (he : m.e me = 0) (h0 : 0 ≤ p) (h8 : p ≤ 8) : LoP P m me job o (pausing p) ∧ hold (pausing p) = false ∧ in5 (pausing p) = 0 ∧ wrote (P.k me) job (pausing p) = 0 ∧ dirty (pausing p) = false ∧ ∀ st', after st' (pausing p) := by
  unfold pausing
  split
  · exact ⟨⟨hj, he⟩, rfl, rfl, rfl, rfl, fun _ => trivial⟩
  · exact ⟨by simp only [LoP]; omega, rfl, rfl, rfl, rfl, fun _ => trivial⟩

/-- the words are few -/
theorem Inv.small {P : Pr} {m : AM} {me ot : Nat} {a b : AT} (hP : PrOk P) (ho : Pair me ot) (h : Inv P m me ot a b) (hj : a.job < P.K me) (hw : wrote (P.k me) a.job a.ph = 0) : m.W ≤ 8 ∧ (a.job < P.k me → m.W < 9) := by
  have h1 := h.g.sum
  have h2 := h.g.t1
  have h3 := h.count
  have i5 : ∀ p, 0 ≤ in5 p := fun p => by cases p <;> simp [in5]
  have d1 := doneN_le (P.k me) a.res
  have d2 := doneN_le (P.k ot) b.res
  have k1 := h.rb.len
  have w1 : wrote (P.k ot) b.job b.ph + doneN (P.k ot) b.res ≤ P.k ot := by
    have hlb := h.lb
    cases hb : b.ph <;> simp only [wrote] <;> (try (split)) <;> (rw [hb] at hlb; simp only [LoP] at hlb; omega)
  have f := hP.few
  have a1 := i5 a.ph
  have a2 := i5 b.ph
  rcases ho with ⟨rfl, rfl⟩ | ⟨rfl, rfl⟩ <;> (refine ⟨?_, fun _ => ?_⟩) <;> (rcases f with f | f <;> omega)


theorem dirty_free {P : Pr} {m : AM} {ot job : Nat} {o q : Ph} (h : LoP P m ot job o q) (hf : m.lk.held = false) : dirty q = false ∧ hold q = false := by
  cases q <;> simp only [dirty, hold, and_self] <;> (have := (holder_is (me := ot) h rfl).1; rw [hf] at this; contradiction)

theorem step_inv {P : Pr} {m : AM} {me ot : Nat} {a b : AT} {p : Int} (hP : PrOk P) (ho : Pair me ot) (h : Inv P m me ot a b) (p0 : 0 ≤ p) (p8 : p ≤ 8) : Inv P (stepT P me m a p).1 me ot (stepT P me m a p).2 b := by
  have hg := h.g
  have hla := h.la
  have hk := K_le (P := P) (me := me)
  have sp := hP.sp
  obtain ⟨q, job, res⟩ := a
  cases q
  case coming =>
    simp only [LoP] at hla
    exact h.keep (p' := .asking) setE_lk.1 setE_lk.2.1 setE_lk.2.2 (setE_ot ho) rfl rfl rfl rfl (fun _ _ _ => trivial) ⟨hla.1, setE_me ho⟩
  case asking =>
    simp only [LoP] at hla
    have := hP.start; have := hg.t0
    simp only [stepT]
    exact h.keep (p' := .marking m.T) rfl rfl rfl rfl rfl rfl rfl rfl (fun _ _ _ => trivial) ⟨hla.1, hla.2, by omega, by omega⟩
  case marking st =>
    simp only [LoP] at hla
    simp only [stepT]
    refine h.keep (p' := .f0 st P.sp) setE_lk.1 setE_lk.2.1 setE_lk.2.2 (setE_ot ho) rfl rfl rfl rfl (fun _ _ _ => trivial) ⟨hla.1, ?_, by omega, ?_, by omega, by omega⟩
    · rw [setE_me ho]; omega
    · rw [setE_lk.2.2]; omega
  case f0 st q =>
    simp only [LoP] at hla
    obtain ⟨h1, h2, h3, h4, h5, h6⟩ := hla
    obtain ⟨g1, g2, g3, g4, g5, g6⟩ := found_lo ho h rfl h1 h2 h3 h4 h5 h6
    exact h.keep rfl rfl rfl rfl g2 g3 g4 g5 (fun _ _ _ => g6 _) g1
  case f1 st q v =>
    simp only [LoP] at hla
    obtain ⟨h1, h2, h3, h4, h5, h6, h7, h8, h9, h10⟩ := hla
    refine h.keep (p' := .f2 st q v m.W) rfl rfl rfl rfl rfl rfl rfl rfl (fun _ _ _ => trivial) ⟨h1, h2, h3, h4, h5, h6, h7, h8, h9, h10, hg.w0, fun _ _ => rfl⟩
  case f2 st q v w =>
    simp only [LoP] at hla
    obtain ⟨h1, h2, h3, h4, h5, h6, h7, h8, h9, h10, h11, h12⟩ := hla
    simp only [stepT]
    by_cases c : m.lk = ⟨v, false, 0⟩
    · have hd := (dirty_free h.lb (by rw [c])).1
      have hw := h12 (by rw [c]) hd
      have hs := h.small hP ho h1 rfl
      simp only [if_pos c]
      by_cases cj : job = P.k me
      · simp only [if_pos cj]
        refine h.keep (p' := .go 2 0 (-1) w) rfl rfl rfl rfl rfl rfl ?_ rfl (fun _ _ _ => trivial) ⟨h1, h2, .inl ⟨rfl, h11, by omega⟩⟩
        simp only [wrote]; rw [if_neg (by omega)]
      · simp only [if_neg cj]
        exact h.keep (p' := .c0 st v w P.sp) rfl rfl rfl rfl rfl rfl rfl rfl (fun _ _ _ => trivial) ⟨by show job < P.k me; have : job < P.K me := h1; omega, h2, h3, h4, by omega, by omega, h7, h8, h9, h10, ⟨h11, by omega⟩, h12⟩
    · simp only [if_neg c]
      obtain ⟨g1, g2, g3, g4, g5, g6⟩ := found_lo ho h rfl h1 h2 h3 h4 h5 h6
      exact h.keep rfl rfl rfl rfl g2 g3 g4 g5 (fun _ _ _ => g6 _) g1
  case ext st =>
    simp only [LoP] at hla
    simp only [stepT]
    exact h.keep (p' := .f0 m.T P.sp) rfl rfl rfl rfl rfl rfl rfl rfl (fun _ _ _ => trivial) ⟨hla.1, hla.2.1, by omega, by omega, by omega, by omega⟩
  case c0 st v w q =>
    simp only [LoP] at hla
    obtain ⟨h1, h2, h3, h4, h5, h6, h7, h8, h9, h10, h11, h12⟩ := hla
    simp only [stepT]
    by_cases c : m.lk.held = true
    · have hb := hg.heldBy c
      have hb : m.lk.owner = ot := by rcases hb with ⟨_, e⟩ | ⟨e, _⟩; cases e; exact e
      simp only [if_pos c]
      by_cases c2 : m.lk.owner > me
      · simp only [if_pos c2]; exact h
      · simp only [if_neg c2]
        by_cases c3 : 0 ≤ q - 1
        · simp only [if_pos c3]
          exact h.keep (p' := .c0 st v w (q - 1)) rfl rfl rfl rfl rfl rfl rfl rfl (fun _ _ _ => trivial) ⟨h1, h2, h3, h4, by omega, by omega, h7, h8, h9, h10, h11, h12⟩
        · simp only [if_neg c3]
          refine h.keep (p' := .go 5 0 m.lk.owner 0) rfl rfl rfl rfl rfl rfl ?_ rfl (fun _ _ _ => trivial) ⟨by show job < P.K me; have : job < P.k me := h1; omega, h2, .inr (.inl ⟨rfl, .inr ?_⟩)⟩
          · simp [wrote]
          · omega
    · simp only [if_neg c]
      exact h.keep (p' := .c1 st v w q m.lk.version) rfl rfl rfl rfl rfl rfl rfl rfl (fun _ _ _ => trivial) ⟨h1, h2, h3, h4, h5, h6, h7, h8, h9, h10, h11, h12, hg.v1⟩
  case c1 st v w q V =>
    simp only [LoP] at hla
    obtain ⟨h1, h2, h3, h4, h5, h6, h7, h8, h9, h10, h11, h12, h13⟩ := hla
    simp only [stepT]
    by_cases c : m.lk = ⟨V, false, 0⟩
    · simp only [if_pos c]
      have hd := dirty_free h.lb (by rw [c])
      have hV := hg.v0
      rw [c] at hV h9 h12
      refine ⟨⟨hV, h13, hg.t0, hg.t1, hg.w0, fun e => (by cases e), fun _ => .inl ⟨rfl, rfl⟩, hg.sum⟩, ⟨h1, h2, h3, h4, h7, h8, h9, h11, fun e => h12 e hd.1, rfl⟩, ?_, ⟨h.ra.len, h.ra.is⟩, h.rb, h.count⟩
      exact Lo_ot h.lb rfl (Int.le_refl _) hg.t1 (fun _ _ _ => trivial) (fun e => by rw [hd.2] at e; cases e) (.inl (by rw [c])) (fun _ _ => ⟨rfl, rfl⟩)
    · simp only [if_neg c]
      exact h.keep (p' := .c0 st v w q) rfl rfl rfl rfl rfl rfl rfl rfl (fun _ _ _ => trivial) ⟨h1, h2, h3, h4, h5, h6, h7, h8, h9, h10, h11, h12⟩
  case c2 st v w V =>
    simp only [LoP] at hla
    obtain ⟨h1, h2, h3, h4, h5, h6, h7, h8, h9, h10⟩ := hla
    simp only [stepT]
    by_cases c : TM ≤ m.T
    · simp only [if_pos c]
      exact h.keep (p' := .c7 V 4 7) rfl rfl rfl rfl rfl rfl rfl rfl (fun _ _ _ => trivial) ⟨h1, h2, h10, .inr ⟨rfl, rfl, by have := hg.t1; omega⟩⟩
    · simp only [if_neg c]
      exact h.keep (p' := .c3 st v w V m.T) rfl rfl rfl rfl rfl rfl rfl rfl (fun _ _ _ => trivial) ⟨h1, h2, h3, h4, h5, h6, h7, h8, h9, h10, rfl, by omega⟩
  case c3 st v w V now =>
    simp only [LoP] at hla
    obtain ⟨h1, h2, h3, h4, h5, h6, h7, h8, h9, h10, h11, h12⟩ := hla
    have hV : V ≤ m.T := by have := hg.v1; rw [h10] at this; exact this
    have hb : hold b.ph = false := by
      cases e : hold b.ph with
      | false => rfl
      | true => have := (holder_is (me := me) h.lb e).2; rw [h10] at this; simp only at this; omega
    have hi : in5 b.ph = 0 := by revert hb; cases b.ph <;> simp [hold, in5]
    have hsum : m.W + 0 + in5 b.ph ≤ m.T - P.start := hg.sum
    rw [hi] at hsum
    simp only [stepT, if_pos h11.symm]
    have hT : now + 1 ≤ TM := by omega
    have hT0 := hg.t0
    have hlo : ∀ p' : Ph, (∀ st, st ≤ m.T → after st p') → dirty p' = false → LoP P { m with T := now + 1 } ot b.job p' b.ph := fun p' ha hd =>
      Lo_ot h.lb rfl (by show m.T ≤ now + 1; omega) hT (fun st e _ => ha st e) (fun e => by rw [hb] at e; cases e) (.inl rfl) (fun _ _ => ⟨rfl, rfl⟩)
    have hr : ∀ (i : Nat) (x : AT), ResOk P m.T i x → ResOk P (now + 1) i x := fun i x hx => ⟨hx.len, fun j r e => by
      rcases hx.is j r e with g | ⟨g1, g2, g3, g4⟩
      · exact .inl g
      · omega⟩
    by_cases c : now = st ∨ V = v
    · have hVv : V = v := by
        rcases c with c | c
        · rcases h7 with h7 | h7
          · exact h7
          · omega
        · exact c
      simp only [if_pos c]
      refine ⟨⟨hg.v0, by have := hg.v1; show m.lk.version ≤ now + 1; omega, by show P.start ≤ now + 1; omega, hT, hg.w0, hg.free, fun e => ?_, by show m.W + in5 (Ph.c5 w V now) + in5 b.ph ≤ now + 1 - P.start; rw [hi]; show m.W + 1 + 0 ≤ _; omega⟩,
        ⟨h1, h2, h8, h9 hVv, h10, rfl, by omega⟩, hlo _ (fun st' e => by simp only [after]; omega) rfl, hr _ ⟨_, job, res⟩ ⟨h.ra.len, h.ra.is⟩, hr _ _ h.rb, h.count⟩
      have := hg.heldBy e
      exact this
    · simp only [if_neg c]
      refine ⟨⟨hg.v0, by have := hg.v1; show m.lk.version ≤ now + 1; omega, by show P.start ≤ now + 1; omega, hT, hg.w0, hg.free, fun e => ?_, by show m.W + in5 (Ph.c7 V 5 0) + in5 b.ph ≤ now + 1 - P.start; rw [hi]; show m.W + 0 + 0 ≤ _; omega⟩,
        ⟨h1, h2, h10, .inl ⟨rfl, rfl⟩⟩, hlo _ (fun st' e => trivial) rfl, hr _ ⟨_, job, res⟩ ⟨h.ra.len, h.ra.is⟩, hr _ _ h.rb, h.count⟩
      exact hg.heldBy e
  case c5 w V now =>
    simp only [LoP] at hla
    obtain ⟨h1, h2, h3, h4, h5, h6, h7⟩ := hla
    have hb : hold b.ph = false := by
      cases e : hold b.ph with
      | false => rfl
      | true => have := (holder_is (me := me) h.lb e).2; rw [h5] at this; simp only at this; omega
    have hsum : m.W + 1 + in5 b.ph ≤ m.T - P.start := hg.sum
    have hc : (doneN (P.k me) res : Int) + doneN (P.k ot) b.res + 0 + wrote (P.k ot) b.job b.ph = m.W := h.count
    refine ⟨⟨hg.v0, hg.v1, hg.t0, hg.t1, by show 0 ≤ w + 1; omega, hg.free, fun e => hg.heldBy e, by show w + 1 + 0 + in5 b.ph ≤ m.T - P.start; omega⟩, ⟨h1, h2, h3, rfl, h5, h6, h7⟩, ?_, ⟨h.ra.len, h.ra.is⟩, h.rb, ?_⟩
    · exact Lo_ot h.lb rfl (Int.le_refl _) hg.t1 (fun _ _ e => e) (fun e => by rw [hb] at e; cases e) (.inl rfl) (fun _ e => by cases e)
    · show (doneN (P.k me) res : Int) + doneN (P.k ot) b.res + 1 + wrote (P.k ot) b.job b.ph = w + 1
      omega
  case c6 w V now =>
    simp only [LoP] at hla
    obtain ⟨h1, h2, h3, h4, h5, h6, h7⟩ := hla
    have hb : hold b.ph = false := by
      cases e : hold b.ph with
      | false => rfl
      | true => have := (holder_is (me := me) h.lb e).2; rw [h5] at this; simp only at this; omega
    have hV := hg.v0
    rw [h5] at hV
    have hc := h.count
    refine ⟨⟨by show 0 ≤ now + 1; simp only at hV; omega, by show now + 1 ≤ m.T; omega, hg.t0, hg.t1, hg.w0, fun _ => rfl, fun e => (by cases e), hg.sum⟩, ⟨by show job < P.K me; have : job < P.k me := h1; omega, h2, .inl ⟨rfl, by omega, by omega⟩⟩, ?_, ⟨h.ra.len, h.ra.is⟩, h.rb, ?_⟩
    · exact Lo_ot h.lb rfl (Int.le_refl _) hg.t1 (fun _ _ _ => trivial) (fun e => by rw [hb] at e; cases e) (.inr ⟨by show m.T ≤ now + 1; omega, fun st e => e⟩) (fun e => by
        rw [h5] at e; have : now + 1 = V := e; omega)
    · have hc : (doneN (P.k me) res : Int) + doneN (P.k ot) b.res + 1 + wrote (P.k ot) b.job b.ph = m.W := hc
      have e : wrote (P.k me) job (.go 2 0 (-1) (w + 1)) = 1 := if_pos ⟨rfl, h1⟩
      show (doneN (P.k me) res : Int) + doneN (P.k ot) b.res + wrote (P.k me) job (.go 2 0 (-1) (w + 1)) + wrote (P.k ot) b.job b.ph = m.W
      rw [e]; exact hc
  case c7 V e er =>
    simp only [LoP] at hla
    obtain ⟨h1, h2, h3, h4⟩ := hla
    have hb : hold b.ph = false := by
      cases e : hold b.ph with
      | false => rfl
      | true => have := (holder_is (me := me) h.lb e).2; rw [h3] at this; simp only at this; omega
    have hV := hg.v0
    have hV1 := hg.v1
    rw [h3] at hV hV1
    have hc := h.count
    refine ⟨⟨hV, hV1, hg.t0, hg.t1, hg.w0, fun _ => rfl, fun e => (by cases e), hg.sum⟩, ⟨by show job < P.K me; have : job < P.k me := h1; omega, h2, ?_⟩, ?_, ⟨h.ra.len, h.ra.is⟩, h.rb, ?_⟩
    · rcases h4 with ⟨e1, e2⟩ | ⟨e1, e2, e3⟩
      · exact .inr (.inl ⟨e1, .inl rfl⟩)
      · exact .inr (.inr ⟨e1, e2, e3, h1⟩)
    · exact Lo_ot h.lb rfl (Int.le_refl _) hg.t1 (fun _ _ _ => trivial) (fun e => by rw [hb] at e; cases e) (.inl (by show V = _; rw [h3])) (fun _ _ => ⟨rfl, rfl⟩)
    · have hc : (doneN (P.k me) res : Int) + doneN (P.k ot) b.res + 0 + wrote (P.k ot) b.job b.ph = m.W := hc
      have e2 : wrote (P.k me) job (.go e er (-1) 0) = 0 := if_neg (by omega)
      show (doneN (P.k me) res : Int) + doneN (P.k ot) b.res + wrote (P.k me) job (.go e er (-1) 0) + wrote (P.k ot) b.job b.ph = m.W
      rw [e2]; exact hc
  case go e er bb it =>
    simp only [LoP] at hla
    obtain ⟨h1, h2, h3⟩ := hla
    have hn := hP.n
    simp only [stepT, ended]
    by_cases c : e = 5
    · simp only [if_pos c]
      have hw : ∀ p' : Ph, wrote (P.k me) job p' = 0 → wrote (P.k me) job p' = wrote (P.k me) job (.go e er bb it) := fun p' g => by rw [g]; simp only [wrote]; rw [if_neg (by omega)]
      by_cases c2 : 0 ≤ bb ∧ bb < P.n
      · simp only [if_pos c2]
        exact h.keep (p' := .yld bb 0 false) setE_lk.1 setE_lk.2.1 setE_lk.2.2 (setE_ot ho) rfl rfl (hw _ rfl) rfl (fun _ _ _ => trivial) ⟨h1, setE_me ho, by omega, by omega⟩
      · simp only [if_neg c2]
        obtain ⟨g1, g2, g3, g4, g5, g6⟩ := pausing_lo (o := b.ph) (p := p) h1 (setE_me (m := m) (x := 0) ho) p0 p8
        exact h.keep setE_lk.1 setE_lk.2.1 setE_lk.2.2 (setE_ot ho) g2 g3 (hw _ g4) g5 (fun _ _ _ => g6 _) g1
    · simp only [if_neg c]
      have hl := h.ra.len
      have hc : (doneN (P.k me) res : Int) + doneN (P.k ot) b.res + (if e = 2 ∧ job < P.k me then 1 else 0) + wrote (P.k ot) b.job b.ph = m.W := h.count
      simp only at hl
      have hd : ∀ p' : Ph, wrote (P.k me) (job + 1) p' = 0 → (doneN (P.k me) (res ++ [(e, er, it)]) : Int) + doneN (P.k ot) b.res + wrote (P.k me) (job + 1) p' + wrote (P.k ot) b.job b.ph = m.W := fun p' g => by
        rw [g]
        by_cases cj : job < P.k me
        · rw [doneN_snoc_lt (by omega)]
          simp only
          by_cases c2 : e = 2
          · rw [if_pos ⟨c2, cj⟩] at hc; rw [if_pos c2]; omega
          · rw [if_neg (fun g => c2 g.1)] at hc; rw [if_neg c2]; omega
        · rw [doneN_snoc_ge (by omega)]
          rw [if_neg (fun g => cj g.2)] at hc; omega
      have hr : ∀ p' : Ph, ResOk P m.T me ⟨p', job + 1, res ++ [(e, er, it)]⟩ := fun p' => ⟨by simp [hl], fun i r g => by
        simp only at g
        rcases Nat.lt_or_ge i res.length with hlt | hge
        · rw [List.getElem?_append_left hlt] at g
          exact h.ra.is i r g
        · rw [List.getElem?_append_right hge] at g
          have hi : i = res.length := by
            rcases Nat.lt_or_ge (i - res.length) 1 with g1 | g1
            · omega
            · rw [List.getElem?_eq_none (by simpa using g1)] at g; cases g
          subst hi
          rw [Nat.sub_self] at g
          cases g
          rcases h3 with ⟨g1, _⟩ | ⟨g1, _⟩ | ⟨g1, g2, g3, g4⟩
          · exact .inl g1
          · exact absurd g1 c
          · exact .inr ⟨g1, g2, g3, by show res.length < P.k me; omega⟩⟩
      have key : ∀ p' : Ph, hold p' = false → in5 p' = 0 → wrote (P.k me) (job + 1) p' = 0 → dirty p' = false → (∀ st', after st' p') → LoP P (m.setE me 0) me (job + 1) b.ph p' → Inv P (m.setE me 0) me ot ⟨p', job + 1, res ++ [(e, er, it)]⟩ b := fun p' f1 f2 f3 f4 f5 f6 => by
        have e1 := (setE_lk (m := m) (me := me) (x := 0)).1
        have e2 := (setE_lk (m := m) (me := me) (x := 0)).2.1
        have e3 := (setE_lk (m := m) (me := me) (x := 0)).2.2
        refine ⟨⟨by rw [e1]; exact hg.v0, by rw [e1, e3]; exact hg.v1, by rw [e3]; exact hg.t0, by rw [e3]; exact hg.t1, by rw [e2]; exact hg.w0, by rw [e1]; exact hg.free, ?_, ?_⟩, f6, ?_, by rw [e3]; exact hr _, by rw [e3]; exact ⟨h.rb.len, h.rb.is⟩, by rw [e2]; exact hd _ f3⟩
        · rw [e1]; intro g
          rcases hg.heldBy g with ⟨_, g2⟩ | g2
          · cases g2
          · exact .inr g2
        · have : m.W + 0 + in5 b.ph ≤ m.T - P.start := hg.sum
          rw [e2, e3]; simp only [f2]; exact this
        · exact Lo_ot h.lb (setE_ot ho) (by rw [e3]; exact Int.le_refl _) (by rw [e3]; exact hg.t1) (fun _ _ _ => f5 _) (fun _ => ⟨e1, e2, e3⟩) (.inl (by rw [e1])) (fun _ _ => ⟨rfl, e2⟩)
      by_cases c2 : job + 1 = P.K me
      · simp only [if_pos c2]
        exact key .fin rfl rfl rfl rfl (fun _ => trivial) ⟨c2, setE_me ho⟩
      · simp only [if_neg c2]
        exact key .coming rfl rfl rfl rfl (fun _ => trivial) ⟨by show job + 1 < P.K me; have : job < P.K me := h1; omega, setE_me ho⟩
  case yld bb since y =>
    simp only [LoP] at hla
    obtain ⟨h1, h2, h3, h4⟩ := hla
    simp only [stepT]
    by_cases c : m.e bb.toNat ≠ 0 ∧ (y = false ∨ m.e bb.toNat = since)
    · simp only [if_pos c]
      exact h.keep (p' := .yld bb (m.e bb.toNat) true) rfl rfl rfl rfl rfl rfl rfl rfl (fun _ _ _ => trivial) ⟨h1, h2, h3, h4⟩
    · simp only [if_neg c]
      obtain ⟨g1, g2, g3, g4, g5, g6⟩ := pausing_lo (o := b.ph) (p := p) h1 h2 p0 p8
      exact h.keep rfl rfl rfl rfl g2 g3 g4 g5 (fun _ _ _ => g6 _) g1
  case pause p' =>
    simp only [LoP] at hla
    simp only [stepT]
    by_cases c : p' = 1
    · simp only [if_pos c]
      exact h.keep (p' := .coming) rfl rfl rfl rfl rfl rfl rfl rfl (fun _ _ _ => trivial) ⟨hla.1, hla.2.1⟩
    · simp only [if_neg c]
      exact h.keep (p' := .pause (p' - 1)) rfl rfl rfl rfl rfl rfl rfl rfl (fun _ _ _ => trivial) ⟨hla.1, hla.2.1, by omega, by omega⟩
  case fin => exact h


/-! ### each round something falls -/
theorem stale_le (V : Int) (p : Ph) : 0 ≤ stale V p ∧ stale V p ≤ 1 := by
  cases p <;> simp only [stale] <;> (try split) <;> omega
theorem left_le (k job : Nat) (p : Ph) : 0 ≤ left k job p ∧ left k job p ≤ k := by
  cases p <;> simp only [left] <;> (try split) <;> omega
theorem big_le (m : AM) (me : Nat) : 0 ≤ big m me ∧ big m me ≤ 100 := by unfold big; split <;> omega
theorem lam_le {P : Pr} {m : AM} {me : Nat} {a : AT} {o : Ph} (h : LoP P m me a.job o a.ph) : 0 ≤ lam P m me a ∧ lam P m me a ≤ 165 := by
  have hb := big_le m me
  obtain ⟨p, job, res⟩ := a
  cases p <;> simp only [lam, LoP] at h ⊢ <;> (repeat' split) <;> omega

theorem lam_ot {P : Pr} {m m' : AM} {ot : Nat} {b : AT} (e : m'.lk = m.lk) (h : m'.e0 = m.e0 ∨ big m ot = 0) : lam P m' ot b = lam P m ot b := by
  have hb : big m' ot = big m ot := by unfold big; rw [e]
  obtain ⟨p, job, res⟩ := b
  cases p <;> simp only [lam, hb, e]
  case yld =>
    rcases h with h | h
    · rw [h]
    · rw [h]; simp only [Int.add_zero, ite_self]

theorem mu_drop {P : Pr} {m m' : AM} {me ot : Nat} {a a' b : AT} (e : m'.lk = m.lk) (hl : left (P.k me) a'.job a'.ph = left (P.k me) a.job a.ph) (hs : stale m.lk.version a'.ph ≤ stale m.lk.version a.ph)
    (hb : m'.e0 = m.e0 ∨ big m ot = 0) (hm : lam P m' me a' < lam P m me a) : mu P m' me ot a' b < mu P m me ot a b := by
  unfold mu
  rw [e, hl, lam_ot e hb]
  have := (stale_le m.lk.version a'.ph)
  split <;> omega

/-- a lock is taken, or let go -/
theorem mu_event {P : Pr} {m m' : AM} {me ot : Nat} {a a' b : AT} {o o' q q' : Ph} (h1 : LoP P m me a.job o a.ph) (h2 : LoP P m ot b.job q b.ph) (h1' : LoP P m' me a'.job o' a'.ph) (h2' : LoP P m' ot b.job q' b.ph)
    (h : 2 * (2 * left (P.k me) a'.job a'.ph + stale m'.lk.version a'.ph + stale m'.lk.version b.ph) + (if m'.lk.held = true then 0 else 1) < 2 * (2 * left (P.k me) a.job a.ph + stale m.lk.version a.ph + stale m.lk.version b.ph) + (if m.lk.held = true then 0 else 1)) :
    mu P m' me ot a' b < mu P m me ot a b := by
  have a1 := lam_le h1
  have a2 := lam_le h2
  have a3 := lam_le h1'
  have a4 := lam_le h2'
  unfold mu
  generalize (if m'.lk.held = true then (0 : Int) else 1) = x at h ⊢
  generalize (if m.lk.held = true then (0 : Int) else 1) = y at h ⊢
  omega

def Stuck (m : AM) (me ot : Nat) (p : Ph) : Prop := p = .fin ∨ (m.lk.held = true ∧ m.lk.owner = ot ∧ hold p = false) ∨ (me = 1 ∧ m.e0 ≠ 0 ∧ hold p = false)

theorem ot_of {P : Pr} {m : AM} {me ot : Nat} {a b : AT} (h : Inv P m me ot a b) (hp : hold a.ph = false) (c : m.lk.held = true) : m.lk.owner = ot := by
  have hb := h.g.heldBy c
  rw [hp] at hb
  rcases hb with ⟨_, e⟩ | ⟨e, _⟩
  · cases e
  · exact e
/-- what is written of the epochs doesn't matter to the other one -/
theorem big_ot {P : Pr} {m : AM} {me ot : Nat} {a b : AT} {x : Int} (ho : Pair me ot) (h : Inv P m me ot a b) (hp : hold a.ph = false) : (m.setE me x).e0 = m.e0 ∨ big m ot = 0 := by
  rcases ho with ⟨rfl, rfl⟩ | ⟨rfl, rfl⟩
  · refine .inr ?_
    unfold big
    rw [if_neg]
    rintro ⟨c, e, _⟩
    have := ot_of h hp c
    omega
  · exact .inl rfl

theorem found_mu {P : Pr} {m : AM} {me ot : Nat} {a b : AT} {st q z : Int} (ho : Pair me ot) (h : Inv P m me ot a b) (hp : hold a.ph = false) (q0 : 0 ≤ q) (q1 : q ≤ 4) (hV : m.lk.version ≤ m.T)
    (hz : z = (if m.lk.version ≤ st then 16 else 28) + q + big m me ∨ z = 34 + q + big m me) (hf : ∀ job res, lam P m me ⟨.f0 st q, job, res⟩ ≤ z) :
    (lam P m me ⟨found me st q m.lk, a.job, a.res⟩ < z) ∨ (found me st q m.lk = .f0 st q ∧ m.lk.held = true ∧ m.lk.owner = ot) := by
  have hb := big_le m me
  unfold found
  by_cases c : m.lk.held = true
  · rw [if_pos c]
    have hot := ot_of h hp c
    unfold waitsF
    by_cases c2 : m.lk.owner > me
    · rw [if_pos c2]; exact .inr ⟨rfl, c, hot⟩
    · rw [if_neg c2]
      have hB : big m me = 100 := by unfold big; rw [if_pos ⟨c, by omega, by omega⟩]
      by_cases c3 : 0 ≤ q - 1
      · rw [if_pos c3]
        left
        simp only [lam_coming, lam_asking, lam_marking, lam_f0, lam_f1, lam_f2, lam_ext, lam_c0, lam_c1, lam_c2, lam_c3, lam_c5, lam_c6, lam_c7, lam_yld, lam_pause, lam_fin]
        rcases hz with hz | hz
        · split at hz <;> omega
        · split <;> omega
      · rw [if_neg c3]
        left
        have e : lam P m me ⟨.go 5 0 m.lk.owner 0, a.job, a.res⟩ = 60 := by
          exact lam_go5 rfl (by omega)
        rw [e]
        rcases hz with hz | hz
        · split at hz <;> omega
        · omega
  · rw [if_neg c]
    by_cases c2 : st < m.lk.version
    · rw [if_pos c2]
      left
      simp only [lam_coming, lam_asking, lam_marking, lam_f0, lam_f1, lam_f2, lam_ext, lam_c0, lam_c1, lam_c2, lam_c3, lam_c5, lam_c6, lam_c7, lam_yld, lam_pause, lam_fin]
      rcases hz with hz | hz
      · rw [if_neg (by omega)] at hz; omega
      · omega
    · rw [if_neg c2]
      left
      have e : m.lk = ⟨m.lk.version, false, 0⟩ := by
        have h1 : m.lk.held = false := by simpa using c
        have h2 := h.g.free h1
        cases hl : m.lk with
        | mk v hd o => rw [hl] at h1 h2; simp only at h1 h2; rw [h1, h2]
      simp only [lam_coming, lam_asking, lam_marking, lam_f0, lam_f1, lam_f2, lam_ext, lam_c0, lam_c1, lam_c2, lam_c3, lam_c5, lam_c6, lam_c7, lam_yld, lam_pause, lam_fin]
      rw [if_pos e]
      rcases hz with hz | hz
      · rw [if_pos (by omega)] at hz; omega
      · omega

theorem pausing_mu {P : Pr} {m : AM} {me job : Nat} {res : List (Int × Int × Int)} {p : Int} (p0 : 0 ≤ p) (p8 : p ≤ 8) : lam P m me ⟨pausing p, job, res⟩ ≤ 55 + big m me ∧ stale m.lk.version (pausing p) = 0 ∧ left (P.k me) job (pausing p) = ((P.k me - job : Nat) : Int) := by
  unfold pausing
  split <;> (refine ⟨?_, rfl, rfl⟩; simp only [lam_coming, lam_asking, lam_marking, lam_f0, lam_f1, lam_f2, lam_ext, lam_c0, lam_c1, lam_c2, lam_c3, lam_c5, lam_c6, lam_c7, lam_yld, lam_pause, lam_fin]; omega)

theorem step_mu {P : Pr} {m : AM} {me ot : Nat} {a b : AT} {p : Int} (hP : PrOk P) (ho : Pair me ot) (h : Inv P m me ot a b) (p0 : 0 ≤ p) (p8 : p ≤ 8) :
    mu P (stepT P me m a p).1 me ot (stepT P me m a p).2 b < mu P m me ot a b ∨ (mu P (stepT P me m a p).1 me ot (stepT P me m a p).2 b = mu P m me ot a b ∧ (stepT P me m a p).1 = m ∧ Stuck m me ot a.ph ∧ hold (stepT P me m a p).2.ph = hold a.ph) := by
  have hi := step_inv hP ho h p0 p8
  have hg := h.g
  have hla := h.la
  have sp := hP.sp
  have hV1 := hg.v1
  have hB := big_le m me
  obtain ⟨ph, job, res⟩ := a
  cases ph
  case coming =>
    left
    exact mu_drop setE_lk.1 rfl (Int.le_refl _) (big_ot ho h rfl) (by simp only [stepT, lam_coming, lam_asking, lam_marking, lam_f0, lam_f1, lam_f2, lam_ext, lam_c0, lam_c1, lam_c2, lam_c3, lam_c5, lam_c6, lam_c7, lam_yld, lam_pause, lam_fin]; unfold big; rw [setE_lk.1]; omega)
  case asking =>
    left
    exact mu_drop rfl rfl (Int.le_refl _) (.inl rfl) (by simp only [stepT, lam_coming, lam_asking, lam_marking, lam_f0, lam_f1, lam_f2, lam_ext, lam_c0, lam_c1, lam_c2, lam_c3, lam_c5, lam_c6, lam_c7, lam_yld, lam_pause, lam_fin]; omega)
  case marking st =>
    left
    refine mu_drop setE_lk.1 rfl (Int.le_refl _) (big_ot ho h rfl) ?_
    have hb2 : big (m.setE me (st + 1)) me = big m me := by unfold big; rw [setE_lk.1]
    simp only [stepT, lam_coming, lam_asking, lam_marking, lam_f0, lam_f1, lam_f2, lam_ext, lam_c0, lam_c1, lam_c2, lam_c3, lam_c5, lam_c6, lam_c7, lam_yld, lam_pause, lam_fin, hb2]; split <;> omega
  case f0 st q =>
    simp only [LoP] at hla
    rcases found_mu (a := ⟨.f0 st q, job, res⟩) ho h rfl hla.2.2.2.2.1 hla.2.2.2.2.2 hV1 (.inl rfl) (fun _ _ => Int.le_refl _) with g | ⟨g1, g2, g3⟩
    · left
      refine mu_drop rfl ?_ ?_ (.inl rfl) g
      · simp only [stepT, found, waitsF]; repeat' split
        all_goals (first | rfl | exact left_5 rfl)
      · simp only [stepT, found, waitsF]; repeat' split
        all_goals exact Int.le_refl _
    · right
      have e : stepT P me m ⟨.f0 st q, job, res⟩ p = (m, ⟨.f0 st q, job, res⟩) := by simp only [stepT]; rw [g1]
      rw [e]
      exact ⟨rfl, rfl, .inr (.inl ⟨g2, g3, rfl⟩), rfl⟩
  case f1 st q v =>
    left
    exact mu_drop rfl rfl (Int.le_refl _) (.inl rfl) (by simp only [stepT, lam_coming, lam_asking, lam_marking, lam_f0, lam_f1, lam_f2, lam_ext, lam_c0, lam_c1, lam_c2, lam_c3, lam_c5, lam_c6, lam_c7, lam_yld, lam_pause, lam_fin]; split <;> omega)
  case f2 st q v w =>
    left
    simp only [LoP] at hla
    simp only [stepT]
    by_cases c : m.lk = ⟨v, false, 0⟩
    · simp only [if_pos c]
      by_cases cj : job = P.k me
      · simp only [if_pos cj]
        refine mu_drop rfl (left_ge (by show P.k me ≤ job; omega)) (Int.le_refl _) (.inl rfl) ?_
        · rw [lam_go2 rfl cj, lam_f2, if_pos c]; omega
      · simp only [if_neg cj]
        refine mu_drop rfl rfl ?_ (.inl rfl) ?_
        · simp only [stale]; rw [if_pos (by rw [c])]; exact Int.le_refl _
        · simp only [lam_coming, lam_asking, lam_marking, lam_f0, lam_f1, lam_f2, lam_ext, lam_c0, lam_c1, lam_c2, lam_c3, lam_c5, lam_c6, lam_c7, lam_yld, lam_pause, lam_fin]; rw [if_pos c]; omega
    · simp only [if_neg c]
      have hz : lam P m me ⟨.f2 st q v w, job, res⟩ = 34 + q + big m me := by simp only [lam_coming, lam_asking, lam_marking, lam_f0, lam_f1, lam_f2, lam_ext, lam_c0, lam_c1, lam_c2, lam_c3, lam_c5, lam_c6, lam_c7, lam_yld, lam_pause, lam_fin]; rw [if_neg c]
      have hf : ∀ job res, lam P m me ⟨.f0 st q, job, res⟩ < lam P m me ⟨.f2 st q v w, job, res⟩ := fun job res => by simp only [lam_coming, lam_asking, lam_marking, lam_f0, lam_f1, lam_f2, lam_ext, lam_c0, lam_c1, lam_c2, lam_c3, lam_c5, lam_c6, lam_c7, lam_yld, lam_pause, lam_fin]; rw [if_neg c]; split <;> omega
      refine mu_drop rfl ?_ ?_ (.inl rfl) ?_
      · simp only [found, waitsF]; repeat' split
        all_goals (first | rfl | exact left_5 rfl)
      · simp only [found, waitsF]; repeat' split
        all_goals exact Int.le_refl _
      · rcases found_mu (a := ⟨.f2 st q v w, job, res⟩) (st := st) (q := q) ho h rfl hla.2.2.2.2.1 hla.2.2.2.2.2.1 hV1 (.inr hz) (fun j r => by have := hf j r; simp only [lam_coming, lam_asking, lam_marking, lam_f0, lam_f1, lam_f2, lam_ext, lam_c0, lam_c1, lam_c2, lam_c3, lam_c5, lam_c6, lam_c7, lam_yld, lam_pause, lam_fin] at this ⊢; omega) with g | ⟨g1, g2, g3⟩
        · exact g
        · rw [g1]; exact hf _ _
  case ext st =>
    left
    exact mu_drop rfl rfl (Int.le_refl _) (.inl rfl) (by simp only [stepT, lam_coming, lam_asking, lam_marking, lam_f0, lam_f1, lam_f2, lam_ext, lam_c0, lam_c1, lam_c2, lam_c3, lam_c5, lam_c6, lam_c7, lam_yld, lam_pause, lam_fin]; rw [if_pos hV1]; omega)
  case c0 st v w q =>
    simp only [LoP] at hla
    by_cases c : m.lk.held = true
    · have hot := ot_of h rfl c
      by_cases c2 : m.lk.owner > me
      · right
        have e : stepT P me m ⟨.c0 st v w q, job, res⟩ p = (m, ⟨.c0 st v w q, job, res⟩) := by simp only [stepT, if_pos c, if_pos c2]
        show mu P (stepT P me m ⟨.c0 st v w q, job, res⟩ p).1 me ot (stepT P me m ⟨.c0 st v w q, job, res⟩ p).2 b = _ ∧ (stepT P me m ⟨.c0 st v w q, job, res⟩ p).1 = m ∧ _ ∧ hold (stepT P me m ⟨.c0 st v w q, job, res⟩ p).2.ph = _
        rw [e]
        exact ⟨rfl, rfl, .inr (.inl ⟨c, hot, rfl⟩), rfl⟩
      · left
        simp only [stepT, if_pos c, if_neg c2]
        have hB2 : big m me = 100 := by unfold big; rw [if_pos ⟨c, by omega, by omega⟩]
        by_cases c3 : 0 ≤ q - 1
        · simp only [if_pos c3]
          exact mu_drop rfl rfl (Int.le_refl _) (.inl rfl) (by simp only [lam_coming, lam_asking, lam_marking, lam_f0, lam_f1, lam_f2, lam_ext, lam_c0, lam_c1, lam_c2, lam_c3, lam_c5, lam_c6, lam_c7, lam_yld, lam_pause, lam_fin]; omega)
        · simp only [if_neg c3]
          refine mu_drop rfl (left_5 rfl) ?_ (.inl rfl) ?_
          · exact (stale_le m.lk.version _).1
          · rw [lam_go5 rfl (by omega), lam_c0]; omega
    · left
      simp only [stepT, if_neg c]
      have e := free_lk hg c
      exact mu_drop rfl rfl (Int.le_refl _) (.inl rfl) (by simp only [lam_coming, lam_asking, lam_marking, lam_f0, lam_f1, lam_f2, lam_ext, lam_c0, lam_c1, lam_c2, lam_c3, lam_c5, lam_c6, lam_c7, lam_yld, lam_pause, lam_fin]; rw [if_pos e]; omega)
  case c1 st v w q V =>
    left
    simp only [LoP] at hla
    simp only [stepT] at hi ⊢
    by_cases c : m.lk = ⟨V, false, 0⟩
    · simp only [if_pos c] at hi ⊢
      refine mu_event h.la h.lb hi.la hi.lb ?_
      simp only [left, stale, c, if_true]
      simp only [Bool.false_eq_true, if_false]
      omega
    · simp only [if_neg c]
      exact mu_drop rfl rfl (Int.le_refl _) (.inl rfl) (by simp only [lam_coming, lam_asking, lam_marking, lam_f0, lam_f1, lam_f2, lam_ext, lam_c0, lam_c1, lam_c2, lam_c3, lam_c5, lam_c6, lam_c7, lam_yld, lam_pause, lam_fin]; rw [if_neg c]; omega)
  case c2 st v w V =>
    left
    simp only [stepT] at hi ⊢
    by_cases c : TM ≤ m.T
    · simp only [if_pos c]
      refine mu_drop rfl rfl ?_ (.inl rfl) (by simp only [lam_coming, lam_asking, lam_marking, lam_f0, lam_f1, lam_f2, lam_ext, lam_c0, lam_c1, lam_c2, lam_c3, lam_c5, lam_c6, lam_c7, lam_yld, lam_pause, lam_fin]; omega)
      simp only [stale]; rw [if_neg (by omega)]; split <;> omega
    · simp only [if_neg c]
      exact mu_drop rfl rfl (Int.le_refl _) (.inl rfl) (by simp only [lam_coming, lam_asking, lam_marking, lam_f0, lam_f1, lam_f2, lam_ext, lam_c0, lam_c1, lam_c2, lam_c3, lam_c5, lam_c6, lam_c7, lam_yld, lam_pause, lam_fin]; omega)
  case c3 st v w V now =>
    left
    simp only [LoP] at hla
    obtain ⟨h1, h2, h3, h4, h5, h6, h7, h8, h9, h10, h11, h12⟩ := hla
    simp only [stepT, if_pos h11.symm]
    by_cases c : now = st ∨ V = v
    · simp only [if_pos c]
      refine mu_drop rfl rfl ?_ (.inl rfl) (by simp only [lam_coming, lam_asking, lam_marking, lam_f0, lam_f1, lam_f2, lam_ext, lam_c0, lam_c1, lam_c2, lam_c3, lam_c5, lam_c6, lam_c7, lam_yld, lam_pause, lam_fin]; omega)
      simp only [stale]; split <;> omega
    · simp only [if_neg c]
      refine mu_drop rfl rfl ?_ (.inl rfl) (by simp only [lam_coming, lam_asking, lam_marking, lam_f0, lam_f1, lam_f2, lam_ext, lam_c0, lam_c1, lam_c2, lam_c3, lam_c5, lam_c6, lam_c7, lam_yld, lam_pause, lam_fin]; omega)
      have e : stale m.lk.version (.c3 st v w V now) = 1 := by rw [h10]; exact if_neg (fun e => c (.inr e.symm))
      show 1 ≤ stale m.lk.version (.c3 st v w V now)
      omega
  case c5 w V now =>
    left
    exact mu_drop rfl rfl (Int.le_refl _) (.inl rfl) (by simp only [stepT, lam_coming, lam_asking, lam_marking, lam_f0, lam_f1, lam_f2, lam_ext, lam_c0, lam_c1, lam_c2, lam_c3, lam_c5, lam_c6, lam_c7, lam_yld, lam_pause, lam_fin]; omega)
  case c6 w V now =>
    left
    simp only [LoP] at hla
    refine mu_event h.la h.lb hi.la hi.lb ?_
    have s1 := stale_le m.lk.version b.ph
    have s2 := stale_le (now + 1) b.ph
    have e1 : left (P.k me) job (.go 2 0 (-1) (w + 1)) = _ := left_lt (by decide) hla.1
    have e2 : (if m.lk.held = true then (0 : Int) else 1) = 0 := by rw [hla.2.2.2.2.1]; rfl
    show 2 * (2 * left (P.k me) job (.go 2 0 (-1) (w + 1)) + 0 + stale (now + 1) b.ph) + 1 < 2 * (2 * ((P.k me - job : Nat) : Int) + 0 + stale m.lk.version b.ph) + (if m.lk.held = true then 0 else 1)
    rw [e1, e2]
    omega
  case c7 V e er =>
    left
    simp only [LoP] at hla
    refine mu_event h.la h.lb hi.la hi.lb ?_
    obtain ⟨h1, h2, h3, h4⟩ := hla
    have e2 : (if m.lk.held = true then (0 : Int) else 1) = 0 := by rw [h3]; rfl
    have e3 : m.lk.version = V := by rw [h3]
    show 2 * (2 * left (P.k me) job (.go e er (-1) 0) + 0 + stale V b.ph) + 1 < 2 * (2 * ((P.k me - job : Nat) : Int) + (if e = 5 then 1 else 0) + stale m.lk.version b.ph) + (if m.lk.held = true then 0 else 1)
    rw [e2, e3]
    rcases h4 with ⟨e1, _⟩ | ⟨e1, _⟩
    · rw [left_5 e1, if_pos e1]; omega
    · rw [left_lt (by omega) h1, if_neg (by omega)]; omega
  case go e er bb it =>
    left
    simp only [LoP] at hla
    obtain ⟨h1, h2, h3⟩ := hla
    have hn := hP.n
    have hk := K_le (P := P) (me := me)
    have hb2 : big (m.setE me 0) me = big m me := by unfold big; rw [setE_lk.1]
    simp only [stepT, ended]
    by_cases c : e = 5
    · simp only [if_pos c]
      by_cases c2 : 0 ≤ bb ∧ bb < P.n
      · simp only [if_pos c2]
        refine mu_drop setE_lk.1 (left_5 c).symm (Int.le_refl _) (big_ot ho h rfl) ?_
        · rw [lam_go5 c c2.1, lam_yld, if_neg (by decide)]; omega
      · simp only [if_neg c2]
        obtain ⟨g1, g2, g3⟩ := pausing_mu (P := P) (m := m.setE me 0) (me := me) (job := job) (res := res) p0 p8
        refine mu_drop setE_lk.1 ?_ ?_ (big_ot ho h rfl) ?_
        · simp only [left] at g3 ⊢; rw [g3, if_neg (by omega)]
        · simp only; rw [setE_lk.1] at g2; rw [g2]; exact Int.le_refl _
        · rw [hb2] at g1
          refine Int.lt_of_le_of_lt g1 ?_
          rw [lam_goN (by omega) (by omega)]; omega
    · simp only [if_neg c]
      have key : ∀ p' : Ph, (p' = .coming ∧ job + 1 < P.K me) ∨ (p' = .fin ∧ job + 1 = P.K me) → mu P (m.setE me 0) me ot ⟨p', job + 1, res ++ [(e, er, it)]⟩ b < mu P m me ot ⟨.go e er bb it, job, res⟩ b := fun p' hp' => by
        refine mu_drop setE_lk.1 ?_ ?_ (big_ot ho h rfl) ?_
        · rcases hp' with ⟨rfl, _⟩ | ⟨rfl, _⟩ <;> simp only [left] <;> split <;> omega
        · rcases hp' with ⟨rfl, _⟩ | ⟨rfl, _⟩ <;> exact Int.le_refl _
        · rcases hp' with ⟨rfl, g⟩ | ⟨rfl, g⟩
          · rw [lam_coming, lam_goN (by omega) (by omega), hb2]; omega
          · rw [lam_fin, lam_go]; repeat' split
            all_goals omega
      by_cases c2 : job + 1 = P.K me
      · simp only [if_pos c2]; exact key _ (.inr ⟨rfl, c2⟩)
      · simp only [if_neg c2]; exact key _ (.inl ⟨rfl, by omega⟩)
  case yld bb since y =>
    simp only [LoP] at hla
    obtain ⟨h1, h2, h3, h4⟩ := hla
    subst h3 h4
    have e0 : m.e (0 : Int).toNat = m.e0 := rfl
    by_cases c : m.e0 ≠ 0 ∧ (y = false ∨ m.e0 = since)
    · have es : stepT P 1 m ⟨.yld 0 since y, job, res⟩ p = (m, ⟨.yld 0 m.e0 true, job, res⟩) := by simp only [stepT, e0, if_pos c]
      rw [es]
      cases y
      · left
        exact mu_drop rfl rfl (Int.le_refl _) (.inl rfl) (by simp only [lam_coming, lam_asking, lam_marking, lam_f0, lam_f1, lam_f2, lam_ext, lam_c0, lam_c1, lam_c2, lam_c3, lam_c5, lam_c6, lam_c7, lam_yld, lam_pause, lam_fin, if_true, Bool.false_eq_true, if_false]; omega)
      · right
        have hs : m.e0 = since := by rcases c.2 with g | g; cases g; exact g
        refine ⟨by rw [hs], rfl, .inr (.inr ⟨rfl, c.1, rfl⟩), rfl⟩
    · left
      simp only [stepT, e0, if_neg c]
      obtain ⟨g1, g2, g3⟩ := pausing_mu (P := P) (m := m) (me := 1) (job := job) (res := res) p0 p8
      refine mu_drop rfl ?_ ?_ (.inl rfl) ?_
      · simp only [left] at g3 ⊢; exact g3
      · simp only; rw [g2]; exact Int.le_refl _
      · refine Int.lt_of_le_of_lt g1 ?_
        simp only [lam_coming, lam_asking, lam_marking, lam_f0, lam_f1, lam_f2, lam_ext, lam_c0, lam_c1, lam_c2, lam_c3, lam_c5, lam_c6, lam_c7, lam_yld, lam_pause, lam_fin]
        have hb0 : big m 1 = 0 ∨ big m 1 = 100 := by unfold big; split <;> simp
        by_cases hbig : m.lk.held = true ∧ m.lk.owner = 0
        · have hot := ot_of h rfl hbig.1
          have hne : m.e0 ≠ 0 := by
            have hlb := h.lb
            have := hg.heldBy hbig.1
            have hh : hold b.ph = true := by rcases this with ⟨e, _⟩ | ⟨_, e⟩; omega; exact e
            have ho0 : ot = 0 := by omega
            subst ho0
            have he1 : m.e 0 = m.e0 := rfl
            cases hb : b.ph <;> rw [hb] at hh hlb <;> simp only [hold, Bool.false_eq_true] at hh <;> simp only [LoP, he1] at hlb <;> omega
          cases y
          · exact absurd ⟨hne, .inl rfl⟩ c
          · simp only [if_true]
            rw [if_neg (fun g => c ⟨hne, .inr g.symm⟩)]
            omega
        · have : big m 1 = 0 := by unfold big; rw [if_neg (fun g => hbig ⟨g.1, g.2.1⟩)]
          rw [this]
          split
          · split <;> omega
          · omega
  case pause p' =>
    left
    simp only [LoP] at hla
    simp only [stepT]
    by_cases c : p' = 1
    · simp only [if_pos c]
      exact mu_drop rfl rfl (Int.le_refl _) (.inl rfl) (by simp only [lam_coming, lam_asking, lam_marking, lam_f0, lam_f1, lam_f2, lam_ext, lam_c0, lam_c1, lam_c2, lam_c3, lam_c5, lam_c6, lam_c7, lam_yld, lam_pause, lam_fin]; omega)
    · simp only [if_neg c]
      exact mu_drop rfl rfl (Int.le_refl _) (.inl rfl) (by simp only [lam_coming, lam_asking, lam_marking, lam_f0, lam_f1, lam_f2, lam_ext, lam_c0, lam_c1, lam_c2, lam_c3, lam_c5, lam_c6, lam_c7, lam_yld, lam_pause, lam_fin]; omega)
  case fin => right; exact ⟨rfl, rfl, .inl rfl, rfl⟩

theorem mu_swap {P : Pr} {m : AM} {me ot : Nat} {a b : AT} : mu P m me ot a b = mu P m ot me b a := by unfold mu; omega

/-- a round -/
theorem round_mu {P : Pr} {m : AM} {a b : AT} {p q : Int} (hP : PrOk P) (h : Inv P m 0 1 a b) (hp : 0 ≤ p ∧ p ≤ 8) (hq : 0 ≤ q ∧ q ≤ 8) (hn : ¬ (a.ph = .fin ∧ b.ph = .fin)) :
    mu P (stepT P 1 (stepT P 0 m a p).1 b q).1 0 1 (stepT P 0 m a p).2 (stepT P 1 (stepT P 0 m a p).1 b q).2 < mu P m 0 1 a b := by
  have s1 := step_mu hP (.inl ⟨rfl, rfl⟩) h hp.1 hp.2
  have i1 := step_inv hP (.inl ⟨rfl, rfl⟩) h hp.1 hp.2
  have s2 := step_mu hP (.inr ⟨rfl, rfl⟩) i1.swap hq.1 hq.2
  rw [mu_swap (me := 1), mu_swap (me := 1)] at s2
  generalize stepT P 0 m a p = r at *
  generalize stepT P 1 r.1 b q = t at *
  rcases s2 with s2 | ⟨s2, f1, f2, f3⟩
  · rcases s1 with s1 | ⟨s1, _⟩ <;> omega
  · rcases s1 with s1 | ⟨s1, g1, g2, g3⟩
    · omega
    · exfalso
      rw [g1] at f1 f2
      have e0 : m.e 0 = m.e0 := rfl
      have hla := h.la
      have hlb := h.lb
      rcases g2 with g2 | ⟨g2, g4, g5⟩ | ⟨g2, _⟩
      · rcases f2 with f2 | ⟨f2, f4, f5⟩ | ⟨_, f2, _⟩
        · exact hn ⟨g2, f2⟩
        · have := h.g.heldBy f2
          rcases this with ⟨_, e⟩ | ⟨e, _⟩
          · rw [g2] at e; cases e
          · omega
        · rw [g2] at hla; simp only [LoP] at hla; omega
      · have := h.g.heldBy g2
        have hh : hold b.ph = true := by rcases this with ⟨e, _⟩ | ⟨_, e⟩; omega; exact e
        rcases f2 with f2 | ⟨_, _, f5⟩ | ⟨_, _, f5⟩
        · rw [f2] at hh; cases hh
        · rw [f5] at hh; cases hh
        · rw [f5] at hh; cases hh
      · cases g2

theorem mu_le {P : Pr} {m : AM} {a b : AT} (hP : PrOk P) (h : Inv P m 0 1 a b) : 0 ≤ mu P m 0 1 a b ∧ mu P m 0 1 a b ≤ 30000 := by
  have a1 := lam_le h.la
  have a2 := lam_le h.lb
  have b1 := left_le (P.k 0) a.job a.ph
  have b2 := left_le (P.k 1) b.job b.ph
  have c1 := stale_le m.lk.version a.ph
  have c2 := stale_le m.lk.version b.ph
  have := hP.jobs
  unfold mu
  split <;> omega

end Go.Proofs.YtoealglbimbbmaaGreatDoor.S
